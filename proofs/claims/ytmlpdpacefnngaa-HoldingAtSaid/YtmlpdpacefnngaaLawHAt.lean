/- HoldingAt: the walk of the law. -/
import Derived.Test.YtmlpdpacefnngaaHolAwake
import Derived.Test.YtmlpdpacefnngaaHolDates
import Derived.Test.YtmlpdpacefnngaaHolSmall2
import Derived.Test.YtmlpdpacefnngaaCodes
namespace Go.Proofs.Ytmlpdpacefnngaa
open Go.RowKit
set_option linter.unusedSimpArgs false
set_option linter.unusedVariables false

theorem codes_same (v u : Value) (xs : List Int) (w : World) (h : IntL w v xs) (h2 : IntL w u xs) : Calls Try.prog 22 #[v, u] w fun e w' => e = .returned (.bool true) ∧ Keeps w w' := by
  obtain ⟨ao, cap, b, o, rfl, hs⟩ := h
  obtain ⟨ao2, cap2, b2, o2, rfl, hs2⟩ := h2
  refine (codes_any xs xs ao ao2 cap b o cap2 b2 o2 w hs hs2).mono fun e w' ⟨h1, q, h2⟩ => ⟨by simpa using h1, by rw [h2]; exact (Keeps.refl w).drewN q⟩
set_option maxRecDepth 100000 in
set_option maxHeartbeats 4000000 in
theorem lawHAt_any (l : List Hol) (p0 p1 day : Int) (ao : Option Addr) (cap b o : Nat) (w : World) (H : Hols w ao l cap b o) (hok : ∀ x ∈ l, x.Ok) :
    Calls Try.prog 4 #[.slice ao l.length cap, .agg #[.int .i64 p0, .int .i64 p1], .int .i64 day] w fun e w' => e = .returned (.bool true) ∧ Keeps w w' := by
  have HH := Lib.hid H
  have HO := Lib.hid hok
  have hcap := Sl.cap H
  have hle := Sl.le H
  clear H hok
  by_cases hl : l.length ≤ 30
  · have hl2 : decide ((30 : Int) < (l.length : Int)) = false := decide_eq_false (by omega)
    go_enter Try.func4, Try.ntmps4
    go_wp2_with (first | (go_at_call 15; refine (hawake_any _).mono ?_; rintro e w1 ⟨rfl, hk1⟩; have HK1 := Lib.hid (((Keeps.refl w).alloc _).trans hk1); have HS : Hid (∀ w', Keeps w1 w' → w'.cell? ⟨w.heap.size, 0, none⟩ = some (.int .i64 p0) ∧ w'.cell? ⟨w.heap.size, 1, none⟩ = some (.int .i64 p1)) := Lib.hid (fun w' h => have h := hk1.trans h; ⟨h.cell (p := ⟨w.heap.size, 0, none⟩) (by go_simp), h.cell (p := ⟨w.heap.size, 1, none⟩) (by go_simp)⟩); clear hk1))
    go_loopw [7] (fun vi wy => ∃ k : Nat, k ≤ l.length ∧ vi = .int .i64 k ∧ Hid (∀ i (hi : i < l.length), i < k → -1000000000 ≤ l[i].share ∧ l[i].share ≤ 1000000000) ∧ Hid (Keeps w1 wy)) (fun vi _ => l.length - (intOf vi).toNat)
    case atStart => exact ⟨0, Nat.zero_le _, rfl, Lib.hid (fun i _ h => absurd h (Nat.not_lt_zero _)), Lib.hid (Keeps.refl _)⟩
    case round =>
      obtain ⟨k, hk, rfl, HN, HY⟩ := hrel
      by_cases hlt : k < l.length
      · have HLk := HH.out.keeps (HK1.out.trans HY.out)
        have hix := Sl.at HLk Try.underlying22 Try.sizeOf27 k hlt
        have z3 := HLk.cell Hol.len k hlt 3 _ rfl
        obtain ⟨s, hs⟩ : ∃ s, l[k].share = s := ⟨_, rfl⟩
        rw [hs] at z3
        clear HLk
        by_cases h1 : 1000000000 < s
        · have h1' : decide (1000000000 < s) = true := decide_eq_true h1
          go_wp2_with fail
          go_ret
          exact ⟨rfl, HK1.out.trans HY.out⟩
        · have h1' : decide (1000000000 < s) = false := decide_eq_false h1
          by_cases h2 : s < -1000000000
          · have h2' : decide (s < -1000000000) = true := decide_eq_true h2
            go_wp2_with fail
            go_ret
            exact ⟨rfl, HK1.out.trans HY.out⟩
          · have h2' : decide (s < -1000000000) = false := decide_eq_false h2
            have HB := Lib.hid (And.intro h1 h2)
            have HSS := Lib.hid hs
            clear h1 h2 hs
            go_wp2_with fail
            go_roundw
            case rel => exact ⟨k + 1, by omega, by go_num, Lib.hid (fun i hi hik => by
              rcases Nat.lt_succ_iff_lt_or_eq.1 hik with h | rfl
              · exact HN.out i hi h
              · have hb := HB.out
                rw [HSS.out]
                omega), HY⟩
            case measure => simp [intOf]; omega
      · obtain rfl : k = l.length := by omega
        have hb : ShB l := fun x hx => by
          obtain ⟨i, hi, rfl⟩ := List.getElem_of_mem hx
          exact HN.out i hi hi
        have HK := Lib.hid (HK1.out.trans HY.out)
        have HS2 : Hid (∀ w', Keeps wr.drew w' → w'.cell? ⟨w.heap.size, 0, none⟩ = some (.int .i64 p0) ∧ w'.cell? ⟨w.heap.size, 1, none⟩ = some (.int .i64 p1)) := Lib.hid (fun w' h => HS.out _ (HY.out.drew.trans h))
        obtain ⟨s, hs⟩ : ∃ s, atH l p0 p1 day = s := ⟨_, rfl⟩
        obtain ⟨t, ht⟩ : ∃ t, totH l p1 day = t := ⟨_, rfl⟩
        have HHD : Hid (∀ W, Keeps wr.drew W → Hols W ao l cap b o) := Lib.hid (fun W h => HH.out.keeps (HK.out.drew.trans h))
        have HA1 : Hid (∀ W, Keeps wr.drew W → Calls Try.prog 18 #[.slice ao l.length cap, .int .i64 p0, .int .i64 p1, .int .i64 day] W fun en w' => en = .returned (.int .i64 s) ∧ Keeps W w') := Lib.hid (fun W h => by have := hat_any ao l cap b o p0 p1 day W (HHD.out W h); rw [hs] at this; exact this)
        have HA2 : Hid (∀ W, Keeps wr.drew W → Calls Try.prog 19 #[.slice ao l.length cap, .int .i64 p0, .int .i64 p1, .int .i64 day] W fun en w' => en = .returned (.int .i64 s) ∧ Keeps W w') := Lib.hid (fun W h => by have := rhat_any ao l cap b o p0 p1 day W (HHD.out W h); rw [hs] at this; exact this)
        have HT1 : Hid (∀ W, Keeps wr.drew W → Calls Try.prog 20 #[.slice ao l.length cap, .int .i64 p1, .int .i64 day] W fun en w' => en = .returned (.int .i64 t) ∧ Keeps W w') := Lib.hid (fun W h => by have := total_any ao l cap b o p1 day W (HHD.out W h) (by omega) hb (fun x hx => (HO.out x hx).1); rw [ht] at this; exact this)
        have HT2 : Hid (∀ W, Keeps wr.drew W → Calls Try.prog 21 #[.slice ao l.length cap, .int .i64 p1, .int .i64 day] W fun en w' => en = .returned (.int .i64 t) ∧ Keeps W w') := Lib.hid (fun W h => by have := rtotal_any ao l cap b o p1 day W (HHD.out W h) (by omega) hb; rw [ht] at this; exact this)
        have HD1 : Hid (∀ W, Keeps wr.drew W → Calls Try.prog 23 #[.slice ao l.length cap] W (DatesOut W l)) := Lib.hid (fun W h => hdates_any ao l cap b o W (HHD.out W h) (by omega) (fun x hx => (HO.out x hx).2.2.1))
        have HD2 : Hid (∀ W, Keeps wr.drew W → Calls Try.prog 24 #[.slice ao l.length cap] W (DatesOut W l)) := Lib.hid (fun W h => hrdates_any ao l cap b o W (HHD.out W h) (by omega))
        clear hs ht hb HN HS
        go_wp2_with fail
        refine wp_region_steps (A := ?_) Keeps [some 33, some 34, some 35, some 36, some 37, some 38, some 39, some 40, some 41, some 42, some 43, some 44, some 45, some 46, some 47, some 48, some 49, some 50, some 51, some 52, some 53, some 54, some 55, some 56, some 57, some 58, some 59, some 60, some 61, some 62, some 63, some 64, some 65, some 66, some 67, some 6] [[], [], [1], [], [3], [], [0, 2, 4, 5], [], [], [8], [], [10], [], [7, 9, 11, 12], [6, 13], [14], [15], [15], [15, 17], [15], [15, 16, 18, 19], [15], [15], [15, 22], [15], [15, 21, 23, 24], [15, 20, 25], [15, 26], [27], [28], [28, 29], [28], [28, 31], [28, 30, 32], [28, 33], [34]] 36 (by kernel_rfl) (by kernel_rfl) (by kernel_rfl) (by kernel_rfl) (by kernel_rfl) (by kernel_rfl) Keeps.refl (fun _ _ _ => Keeps.trans) ?_ ?_
        rotate_left
        · intro f; simp only [putL, Act.put, List.setIfInBounds_toArray, List.set_cons_zero, List.set_cons_succ, Nat.zero_add, Nat.reduceAdd]; exact rfl
        refine Steps.pure (v := ?_) Keeps.refl rfl (fun f w' hR hV => ⟨?_, ?_⟩) ?_
        rotate_left
        · (rfl)
        · (clear hV; obtain ⟨x0, x1⟩ := HS2.out _ hR; go_simp; all_goals (try with_reducible rfl))
        refine Steps.pure (v := ?_) Keeps.refl rfl (fun f w' hR hV => ⟨?_, ?_⟩) ?_
        rotate_left
        · (rfl)
        · (clear hV; obtain ⟨x0, x1⟩ := HS2.out _ hR; go_simp; all_goals (try with_reducible rfl))
        refine Steps.pure (v := ?_) Keeps.refl rfl (fun f w' hR hV => ⟨?_, ?_⟩) ?_
        rotate_left
        · (rfl)
        · (obtain ⟨h1, _⟩ := hV; replace h1 : f 1 = _ := h1; obtain ⟨x0, x1⟩ := HS2.out _ hR; go_simp; all_goals (try with_reducible rfl))
        refine Steps.pure (v := ?_) Keeps.refl rfl (fun f w' hR hV => ⟨?_, ?_⟩) ?_
        rotate_left
        · (rfl)
        · (clear hV; obtain ⟨x0, x1⟩ := HS2.out _ hR; go_simp; all_goals (try with_reducible rfl))
        refine Steps.pure (v := ?_) Keeps.refl rfl (fun f w' hR hV => ⟨?_, ?_⟩) ?_
        rotate_left
        · (rfl)
        · (obtain ⟨h3, _⟩ := hV; replace h3 : f 3 = _ := h3; obtain ⟨x0, x1⟩ := HS2.out _ hR; go_simp; all_goals (try with_reducible rfl))
        refine Steps.pure (v := ?_) Keeps.refl rfl (fun f w' hR hV => ⟨?_, ?_⟩) ?_
        rotate_left
        · (rfl)
        · (clear hV; obtain ⟨x0, x1⟩ := HS2.out _ hR; go_simp; all_goals (try with_reducible rfl))
        refine Steps.call (fun _ v => v = .int .i64 s) rfl (fun _ _ _ _ h => h) (fun f w' hR hV => ⟨?_, ?_⟩) ?_
        · (rfl)
        · (obtain ⟨h0, h2, h4, h5, _⟩ := hV; replace h0 : f 0 = _ := h0; replace h2 : f 2 = _ := h2; replace h4 : f 4 = _ := h4; replace h5 : f 5 = _ := h5; obtain ⟨x0, x1⟩ := HS2.out _ hR; go_simp; go_at_call 18; refine (HA1.out _ hR).mono ?_; rintro e w2 ⟨rfl, hk2⟩; exact StepPost.of _ rfl rfl hk2)
        refine Steps.pure (v := ?_) Keeps.refl rfl (fun f w' hR hV => ⟨?_, ?_⟩) ?_
        rotate_left
        · (rfl)
        · (clear hV; obtain ⟨x0, x1⟩ := HS2.out _ hR; go_simp; all_goals (try with_reducible rfl))
        refine Steps.pure (v := ?_) Keeps.refl rfl (fun f w' hR hV => ⟨?_, ?_⟩) ?_
        rotate_left
        · (rfl)
        · (clear hV; obtain ⟨x0, x1⟩ := HS2.out _ hR; go_simp; all_goals (try with_reducible rfl))
        refine Steps.pure (v := ?_) Keeps.refl rfl (fun f w' hR hV => ⟨?_, ?_⟩) ?_
        rotate_left
        · (rfl)
        · (obtain ⟨h8, _⟩ := hV; replace h8 : f 8 = _ := h8; obtain ⟨x0, x1⟩ := HS2.out _ hR; go_simp; all_goals (try with_reducible rfl))
        refine Steps.pure (v := ?_) Keeps.refl rfl (fun f w' hR hV => ⟨?_, ?_⟩) ?_
        rotate_left
        · (rfl)
        · (clear hV; obtain ⟨x0, x1⟩ := HS2.out _ hR; go_simp; all_goals (try with_reducible rfl))
        refine Steps.pure (v := ?_) Keeps.refl rfl (fun f w' hR hV => ⟨?_, ?_⟩) ?_
        rotate_left
        · (rfl)
        · (obtain ⟨h10, _⟩ := hV; replace h10 : f 10 = _ := h10; obtain ⟨x0, x1⟩ := HS2.out _ hR; go_simp; all_goals (try with_reducible rfl))
        refine Steps.pure (v := ?_) Keeps.refl rfl (fun f w' hR hV => ⟨?_, ?_⟩) ?_
        rotate_left
        · (rfl)
        · (clear hV; obtain ⟨x0, x1⟩ := HS2.out _ hR; go_simp; all_goals (try with_reducible rfl))
        refine Steps.call (fun _ v => v = .int .i64 s) rfl (fun _ _ _ _ h => h) (fun f w' hR hV => ⟨?_, ?_⟩) ?_
        · (rfl)
        · (obtain ⟨h7, h9, h11, h12, _⟩ := hV; replace h7 : f 7 = _ := h7; replace h9 : f 9 = _ := h9; replace h11 : f 11 = _ := h11; replace h12 : f 12 = _ := h12; obtain ⟨x0, x1⟩ := HS2.out _ hR; go_simp; go_at_call 19; refine (HA2.out _ hR).mono ?_; rintro e w2 ⟨rfl, hk2⟩; exact StepPost.of _ rfl rfl hk2)
        refine Steps.pure (v := .bool true) Keeps.refl rfl (fun f w' hR hV => ⟨?_, ?_⟩) ?_
        · (rfl)
        · (obtain ⟨h6, h13, _⟩ := hV; replace h6 : f 6 = _ := h6; replace h13 : f 13 = _ := h13; obtain ⟨x0, x1⟩ := HS2.out _ hR; go_simp; all_goals (try simp))
        refine Steps.pure (v := ?_) Keeps.refl rfl (fun f w' hR hV => ⟨?_, ?_⟩) ?_
        rotate_left
        · (rfl)
        · (obtain ⟨h14, _⟩ := hV; replace h14 : f 14 = _ := h14; obtain ⟨x0, x1⟩ := HS2.out _ hR; go_simp; all_goals (try with_reducible rfl))
        all_goals first
          | (refine Steps.pure (v := ?_) Keeps.refl rfl (fun f w' hR hV => ⟨?_, ?_⟩) ?_
             rotate_left
             · (obtain ⟨h15, _⟩ := hV; replace h15 : f 15 = _ := h15; exact want_yes (t := 48) rfl (by kernel_rfl) rfl h15)
             · (obtain ⟨h15, _⟩ := hV; replace h15 : f 15 = _ := h15; obtain ⟨x0, x1⟩ := HS2.out _ hR; go_simp; all_goals (try with_reducible rfl)))
          | (refine Steps.skip rfl (fun f w' hR hV => ?_) ?_
             · (obtain ⟨h15, _⟩ := hV; replace h15 : f 15 = _ := h15; first | exact want_no (t := 48) rfl (by kernel_rfl) rfl h15 rfl | exact want_undef (t := 48) rfl (by kernel_rfl) rfl h15))
        all_goals first
          | (refine Steps.pure (v := ?_) Keeps.refl rfl (fun f w' hR hV => ⟨?_, ?_⟩) ?_
             rotate_left
             · (obtain ⟨h15, _⟩ := hV; replace h15 : f 15 = _ := h15; exact want_yes (t := 48) rfl (by kernel_rfl) rfl h15)
             · (obtain ⟨h15, _⟩ := hV; replace h15 : f 15 = _ := h15; obtain ⟨x0, x1⟩ := HS2.out _ hR; go_simp; all_goals (try with_reducible rfl)))
          | (refine Steps.skip rfl (fun f w' hR hV => ?_) ?_
             · (obtain ⟨h15, _⟩ := hV; replace h15 : f 15 = _ := h15; first | exact want_no (t := 48) rfl (by kernel_rfl) rfl h15 rfl | exact want_undef (t := 48) rfl (by kernel_rfl) rfl h15))
        all_goals first
          | (refine Steps.pure (v := ?_) Keeps.refl rfl (fun f w' hR hV => ⟨?_, ?_⟩) ?_
             rotate_left
             · (obtain ⟨h15, _, _⟩ := hV; replace h15 : f 15 = _ := h15; exact want_yes (t := 48) rfl (by kernel_rfl) rfl h15)
             · (obtain ⟨h15, h17, _⟩ := hV; replace h15 : f 15 = _ := h15; replace h17 : f 17 = _ := h17; obtain ⟨x0, x1⟩ := HS2.out _ hR; go_simp; all_goals (try with_reducible rfl)))
          | (refine Steps.skip rfl (fun f w' hR hV => ?_) ?_
             · (obtain ⟨h15, _, _⟩ := hV; replace h15 : f 15 = _ := h15; first | exact want_no (t := 48) rfl (by kernel_rfl) rfl h15 rfl | exact want_undef (t := 48) rfl (by kernel_rfl) rfl h15))
        all_goals first
          | (refine Steps.pure (v := ?_) Keeps.refl rfl (fun f w' hR hV => ⟨?_, ?_⟩) ?_
             rotate_left
             · (obtain ⟨h15, _⟩ := hV; replace h15 : f 15 = _ := h15; exact want_yes (t := 48) rfl (by kernel_rfl) rfl h15)
             · (obtain ⟨h15, _⟩ := hV; replace h15 : f 15 = _ := h15; obtain ⟨x0, x1⟩ := HS2.out _ hR; go_simp; all_goals (try with_reducible rfl)))
          | (refine Steps.skip rfl (fun f w' hR hV => ?_) ?_
             · (obtain ⟨h15, _⟩ := hV; replace h15 : f 15 = _ := h15; first | exact want_no (t := 48) rfl (by kernel_rfl) rfl h15 rfl | exact want_undef (t := 48) rfl (by kernel_rfl) rfl h15))
        all_goals first
          | (refine Steps.call (fun _ v => v = .int .i64 t) rfl (fun _ _ _ _ h => h) (fun f w' hR hV => ⟨?_, ?_⟩) ?_
             · (obtain ⟨h15, _, _, _, _⟩ := hV; replace h15 : f 15 = _ := h15; exact want_yes (t := 48) rfl (by kernel_rfl) rfl h15)
             · (obtain ⟨h15, h16, h18, h19, _⟩ := hV; replace h15 : f 15 = _ := h15; replace h16 : f 16 = _ := h16; replace h18 : f 18 = _ := h18; replace h19 : f 19 = _ := h19; obtain ⟨x0, x1⟩ := HS2.out _ hR; go_simp; go_at_call 20; refine (HT1.out _ hR).mono ?_; rintro e w2 ⟨rfl, hk2⟩; exact StepPost.of _ rfl rfl hk2))
          | (refine Steps.skip rfl (fun f w' hR hV => ?_) ?_
             · (obtain ⟨h15, _, _, _, _⟩ := hV; replace h15 : f 15 = _ := h15; first | exact want_no (t := 48) rfl (by kernel_rfl) rfl h15 rfl | exact want_undef (t := 48) rfl (by kernel_rfl) rfl h15))
        all_goals first
          | (refine Steps.pure (v := ?_) Keeps.refl rfl (fun f w' hR hV => ⟨?_, ?_⟩) ?_
             rotate_left
             · (obtain ⟨h15, _⟩ := hV; replace h15 : f 15 = _ := h15; exact want_yes (t := 48) rfl (by kernel_rfl) rfl h15)
             · (obtain ⟨h15, _⟩ := hV; replace h15 : f 15 = _ := h15; obtain ⟨x0, x1⟩ := HS2.out _ hR; go_simp; all_goals (try with_reducible rfl)))
          | (refine Steps.skip rfl (fun f w' hR hV => ?_) ?_
             · (obtain ⟨h15, _⟩ := hV; replace h15 : f 15 = _ := h15; first | exact want_no (t := 48) rfl (by kernel_rfl) rfl h15 rfl | exact want_undef (t := 48) rfl (by kernel_rfl) rfl h15))
        all_goals first
          | (refine Steps.pure (v := ?_) Keeps.refl rfl (fun f w' hR hV => ⟨?_, ?_⟩) ?_
             rotate_left
             · (obtain ⟨h15, _⟩ := hV; replace h15 : f 15 = _ := h15; exact want_yes (t := 48) rfl (by kernel_rfl) rfl h15)
             · (obtain ⟨h15, _⟩ := hV; replace h15 : f 15 = _ := h15; obtain ⟨x0, x1⟩ := HS2.out _ hR; go_simp; all_goals (try with_reducible rfl)))
          | (refine Steps.skip rfl (fun f w' hR hV => ?_) ?_
             · (obtain ⟨h15, _⟩ := hV; replace h15 : f 15 = _ := h15; first | exact want_no (t := 48) rfl (by kernel_rfl) rfl h15 rfl | exact want_undef (t := 48) rfl (by kernel_rfl) rfl h15))
        all_goals first
          | (refine Steps.pure (v := ?_) Keeps.refl rfl (fun f w' hR hV => ⟨?_, ?_⟩) ?_
             rotate_left
             · (obtain ⟨h15, _, _⟩ := hV; replace h15 : f 15 = _ := h15; exact want_yes (t := 48) rfl (by kernel_rfl) rfl h15)
             · (obtain ⟨h15, h22, _⟩ := hV; replace h15 : f 15 = _ := h15; replace h22 : f 22 = _ := h22; obtain ⟨x0, x1⟩ := HS2.out _ hR; go_simp; all_goals (try with_reducible rfl)))
          | (refine Steps.skip rfl (fun f w' hR hV => ?_) ?_
             · (obtain ⟨h15, _, _⟩ := hV; replace h15 : f 15 = _ := h15; first | exact want_no (t := 48) rfl (by kernel_rfl) rfl h15 rfl | exact want_undef (t := 48) rfl (by kernel_rfl) rfl h15))
        all_goals first
          | (refine Steps.pure (v := ?_) Keeps.refl rfl (fun f w' hR hV => ⟨?_, ?_⟩) ?_
             rotate_left
             · (obtain ⟨h15, _⟩ := hV; replace h15 : f 15 = _ := h15; exact want_yes (t := 48) rfl (by kernel_rfl) rfl h15)
             · (obtain ⟨h15, _⟩ := hV; replace h15 : f 15 = _ := h15; obtain ⟨x0, x1⟩ := HS2.out _ hR; go_simp; all_goals (try with_reducible rfl)))
          | (refine Steps.skip rfl (fun f w' hR hV => ?_) ?_
             · (obtain ⟨h15, _⟩ := hV; replace h15 : f 15 = _ := h15; first | exact want_no (t := 48) rfl (by kernel_rfl) rfl h15 rfl | exact want_undef (t := 48) rfl (by kernel_rfl) rfl h15))
        all_goals first
          | (refine Steps.call (fun _ v => v = .int .i64 t) rfl (fun _ _ _ _ h => h) (fun f w' hR hV => ⟨?_, ?_⟩) ?_
             · (obtain ⟨h15, _, _, _, _⟩ := hV; replace h15 : f 15 = _ := h15; exact want_yes (t := 48) rfl (by kernel_rfl) rfl h15)
             · (obtain ⟨h15, h21, h23, h24, _⟩ := hV; replace h15 : f 15 = _ := h15; replace h21 : f 21 = _ := h21; replace h23 : f 23 = _ := h23; replace h24 : f 24 = _ := h24; obtain ⟨x0, x1⟩ := HS2.out _ hR; go_simp; go_at_call 21; refine (HT2.out _ hR).mono ?_; rintro e w2 ⟨rfl, hk2⟩; exact StepPost.of _ rfl rfl hk2))
          | (refine Steps.skip rfl (fun f w' hR hV => ?_) ?_
             · (obtain ⟨h15, _, _, _, _⟩ := hV; replace h15 : f 15 = _ := h15; first | exact want_no (t := 48) rfl (by kernel_rfl) rfl h15 rfl | exact want_undef (t := 48) rfl (by kernel_rfl) rfl h15))
        all_goals first
          | (refine Steps.pure (v := .bool true) Keeps.refl rfl (fun f w' hR hV => ⟨?_, ?_⟩) ?_
             · (obtain ⟨h15, _, _, _⟩ := hV; replace h15 : f 15 = _ := h15; exact want_yes (t := 48) rfl (by kernel_rfl) rfl h15)
             · (obtain ⟨h15, h20, h25, _⟩ := hV; replace h15 : f 15 = _ := h15; replace h20 : f 20 = _ := h20; replace h25 : f 25 = _ := h25; obtain ⟨x0, x1⟩ := HS2.out _ hR; go_simp; all_goals (try simp)))
          | (refine Steps.skip rfl (fun f w' hR hV => ?_) ?_
             · (obtain ⟨h15, _, _, _⟩ := hV; replace h15 : f 15 = _ := h15; first | exact want_no (t := 48) rfl (by kernel_rfl) rfl h15 rfl | exact want_undef (t := 48) rfl (by kernel_rfl) rfl h15))
        all_goals (
          refine Steps.pure (v := ?_) Keeps.refl rfl (fun f w' hR hV => ⟨?_, ?_⟩) ?_
          rotate_left
          · (rfl)
          · (obtain ⟨h15, h26, _⟩ := hV; replace h15 : f 15 = _ := h15; replace h26 : f 26 = _ := h26; obtain ⟨x0, x1⟩ := HS2.out _ hR; go_simp; all_goals (try with_reducible rfl)))
        all_goals (
          refine Steps.pure (v := ?_) Keeps.refl rfl (fun f w' hR hV => ⟨?_, ?_⟩) ?_
          rotate_left
          · (rfl)
          · (obtain ⟨h27, _⟩ := hV; replace h27 : f 27 = _ := h27; obtain ⟨x0, x1⟩ := HS2.out _ hR; go_simp; all_goals (try with_reducible rfl)))
        all_goals first
          | (refine Steps.pure (v := ?_) Keeps.refl rfl (fun f w' hR hV => ⟨?_, ?_⟩) ?_
             rotate_left
             · (obtain ⟨h28, _⟩ := hV; replace h28 : f 28 = _ := h28; exact want_yes (t := 61) rfl (by kernel_rfl) rfl h28)
             · (obtain ⟨h28, _⟩ := hV; replace h28 : f 28 = _ := h28; obtain ⟨x0, x1⟩ := HS2.out _ hR; go_simp; all_goals (try with_reducible rfl)))
          | (refine Steps.skip rfl (fun f w' hR hV => ?_) ?_
             · (obtain ⟨h28, _⟩ := hV; replace h28 : f 28 = _ := h28; first | exact want_no (t := 61) rfl (by kernel_rfl) rfl h28 rfl | exact want_undef (t := 61) rfl (by kernel_rfl) rfl h28))
        all_goals first
          | (refine Steps.call (fun W v => ∃ xs, IntL W v xs ∧ IsDates l xs) rfl (fun _ _ _ hk ⟨xs, h1, h2⟩ => ⟨xs, h1.keeps hk, h2⟩) (fun f w' hR hV => ⟨?_, ?_⟩) ?_
             · (obtain ⟨h28, _, _⟩ := hV; replace h28 : f 28 = _ := h28; exact want_yes (t := 61) rfl (by kernel_rfl) rfl h28)
             · (obtain ⟨h28, h29, _⟩ := hV; replace h28 : f 28 = _ := h28; replace h29 : f 29 = _ := h29; obtain ⟨x0, x1⟩ := HS2.out _ hR; go_simp; go_at_call 23; refine (HD1.out _ hR).mono ?_; rintro e w2 ⟨v2, xs2, rfl, h2, h3, hk2⟩; exact StepPost.of _ rfl ⟨xs2, h2, h3⟩ hk2))
          | (refine Steps.skip rfl (fun f w' hR hV => ?_) ?_
             · (obtain ⟨h28, _, _⟩ := hV; replace h28 : f 28 = _ := h28; first | exact want_no (t := 61) rfl (by kernel_rfl) rfl h28 rfl | exact want_undef (t := 61) rfl (by kernel_rfl) rfl h28))
        all_goals first
          | (refine Steps.pure (v := ?_) Keeps.refl rfl (fun f w' hR hV => ⟨?_, ?_⟩) ?_
             rotate_left
             · (obtain ⟨h28, _⟩ := hV; replace h28 : f 28 = _ := h28; exact want_yes (t := 61) rfl (by kernel_rfl) rfl h28)
             · (obtain ⟨h28, _⟩ := hV; replace h28 : f 28 = _ := h28; obtain ⟨x0, x1⟩ := HS2.out _ hR; go_simp; all_goals (try with_reducible rfl)))
          | (refine Steps.skip rfl (fun f w' hR hV => ?_) ?_
             · (obtain ⟨h28, _⟩ := hV; replace h28 : f 28 = _ := h28; first | exact want_no (t := 61) rfl (by kernel_rfl) rfl h28 rfl | exact want_undef (t := 61) rfl (by kernel_rfl) rfl h28))
        all_goals first
          | (refine Steps.call (fun W v => ∃ xs, IntL W v xs ∧ IsDates l xs) rfl (fun _ _ _ hk ⟨xs, h1, h2⟩ => ⟨xs, h1.keeps hk, h2⟩) (fun f w' hR hV => ⟨?_, ?_⟩) ?_
             · (obtain ⟨h28, _, _⟩ := hV; replace h28 : f 28 = _ := h28; exact want_yes (t := 61) rfl (by kernel_rfl) rfl h28)
             · (obtain ⟨h28, h31, _⟩ := hV; replace h28 : f 28 = _ := h28; replace h31 : f 31 = _ := h31; obtain ⟨x0, x1⟩ := HS2.out _ hR; go_simp; go_at_call 24; refine (HD2.out _ hR).mono ?_; rintro e w2 ⟨v2, xs2, rfl, h2, h3, hk2⟩; exact StepPost.of _ rfl ⟨xs2, h2, h3⟩ hk2))
          | (refine Steps.skip rfl (fun f w' hR hV => ?_) ?_
             · (obtain ⟨h28, _, _⟩ := hV; replace h28 : f 28 = _ := h28; first | exact want_no (t := 61) rfl (by kernel_rfl) rfl h28 rfl | exact want_undef (t := 61) rfl (by kernel_rfl) rfl h28))
        all_goals first
          | (refine Steps.call (fun _ v => v = .bool true) rfl (fun _ _ _ _ h => h) (fun f w' hR hV => ⟨?_, ?_⟩) ?_
             · (obtain ⟨h28, _, _, _⟩ := hV; replace h28 : f 28 = _ := h28; exact want_yes (t := 61) rfl (by kernel_rfl) rfl h28)
             · (obtain ⟨h28, h30, h32, _⟩ := hV; replace h28 : f 28 = _ := h28; replace h30 : ∃ xs, IntL w' (f 30) xs ∧ IsDates l xs := h30; replace h32 : ∃ xs, IntL w' (f 32) xs ∧ IsDates l xs := h32; obtain ⟨x0, x1⟩ := HS2.out _ hR; go_simp; obtain ⟨xs5, g1, g2⟩ := h30; obtain ⟨ys5, g3, g4⟩ := h32; obtain rfl := g2.eq g4; go_at_call 22; refine (codes_same _ _ _ _ g1 g3).mono ?_; rintro e w2 ⟨rfl, hk2⟩; exact StepPost.of _ rfl rfl hk2))
          | (refine Steps.skip rfl (fun f w' hR hV => ?_) ?_
             · (obtain ⟨h28, _, _, _⟩ := hV; replace h28 : f 28 = _ := h28; first | exact want_no (t := 61) rfl (by kernel_rfl) rfl h28 rfl | exact want_undef (t := 61) rfl (by kernel_rfl) rfl h28))
        all_goals (
          refine Steps.pure (v := ?_) Keeps.refl rfl (fun f w' hR hV => ⟨?_, ?_⟩) ?_
          rotate_left
          · (rfl)
          · (obtain ⟨h28, h33, _⟩ := hV; replace h28 : f 28 = _ := h28; replace h33 : f 33 = _ := h33; obtain ⟨x0, x1⟩ := HS2.out _ hR; go_simp; all_goals (try with_reducible rfl)))
        all_goals (
          refine Steps.pure (v := ?_) Keeps.refl rfl (fun f w' hR hV => ⟨?_, ?_⟩) ?_
          rotate_left
          · (rfl)
          · (obtain ⟨h34, _⟩ := hV; replace h34 : f 34 = _ := h34; obtain ⟨x0, x1⟩ := HS2.out _ hR; go_simp; all_goals (try with_reducible rfl)))
        all_goals (refine Steps.done [35] (by kernel_rfl) rfl (fun f wq hR hV => ?_); obtain ⟨h35, _⟩ := hV; replace h35 : f 35 = _ := h35; simp only [h35])
        have HR := Lib.hid (HK.out.drew.trans hR)
        clear hR
        go_wp2_with fail
        go_ret
        exact ⟨rfl, HR.out⟩
  · have hl2 : decide ((30 : Int) < (l.length : Int)) = true := decide_eq_true (by omega)
    go_enter Try.func4, Try.ntmps4
    go_wp2_with (first | (go_at_call 15; refine (hawake_any _).mono ?_; rintro e w1 ⟨rfl, hk1⟩; have HK1 := Lib.hid (((Keeps.refl w).alloc _).trans hk1); clear hk1))
    all_goals (go_ret)
    all_goals (exact ⟨rfl, HK1.out⟩)
end Go.Proofs.Ytmlpdpacefnngaa
