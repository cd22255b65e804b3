/- HoldingTime: the walk of the law. -/
import Derived.Test.YtmlpdpacefnngaaHolAwake
import Derived.Test.YtmlpdpacefnngaaHolDates
import Derived.Test.YtmlpdpacefnngaaHolTimeP
namespace Go.Proofs.Ytmlpdpacefnngaa
open Go.RowKit
set_option linter.unusedSimpArgs false
set_option linter.unusedVariables false

set_option maxRecDepth 100000 in
set_option maxHeartbeats 4000000 in
theorem lawHTime_any (l : List Hol) (p0 p1 d0 d1 : Int) (ao : Option Addr) (cap b o : Nat) (w : World) (H : Hols w ao l cap b o) (hok : ∀ x ∈ l, x.Ok) :
    Calls Try.prog 6 #[.slice ao l.length cap, .agg #[.int .i64 p0, .int .i64 p1], .agg #[.int .i64 d0, .int .i64 d1]] w fun e w' => e = .returned (.bool true) ∧ Keeps w w' := by
  have HH := Lib.hid H
  have HO := Lib.hid hok
  have hcap := Sl.cap H
  have hle := Sl.le H
  clear H hok
  by_cases hl : l.length ≤ 30
  · have hl2 : decide ((30 : Int) < (l.length : Int)) = false := decide_eq_false (by omega)
    go_enter Try.func6, Try.ntmps6
    go_wp2_with (first | (go_at_call 15; refine (hawake_any _).mono ?_; rintro e w1 ⟨rfl, hk1⟩; have HK1 := Lib.hid ((((Keeps.refl w).alloc _).alloc _).trans hk1); have HS : Hid (∀ w', Keeps w1 w' → w'.cell? ⟨w.heap.size, 0, none⟩ = some (.int .i64 p0) ∧ w'.cell? ⟨w.heap.size, 1, none⟩ = some (.int .i64 p1) ∧ w'.cell? ⟨w.heap.size + 1, 0, none⟩ = some (.int .i64 d0) ∧ w'.cell? ⟨w.heap.size + 1, 1, none⟩ = some (.int .i64 d1)) := Lib.hid (fun w' h => have h := hk1.trans h; ⟨h.cell (p := ⟨w.heap.size, 0, none⟩) (by go_simp), h.cell (p := ⟨w.heap.size, 1, none⟩) (by go_simp), h.cell (p := ⟨w.heap.size + 1, 0, none⟩) (by go_simp), h.cell (p := ⟨w.heap.size + 1, 1, none⟩) (by go_simp)⟩); clear hk1))
    go_loopw [7, 8] (fun vs vi wy => ∃ k m : Nat, k ≤ l.length ∧ m ≤ k ∧ vi = .int .i64 k ∧ Hid ((sooner d0 (l.take k)).length = m ∧ Keeps w1 wy ∧ wy.ownsRow w1.heap.size 27 4 vs m ((sooner d0 (l.take k)).flatMap Hol.cells))) (fun _ vi _ => l.length - (intOf vi).toNat)
    case atStart => exact ⟨0, 0, Nat.zero_le _, Nat.le_refl _, rfl, Lib.hid ⟨rfl, Keeps.refl _, World.ownsRow_nil _ _ _ _⟩⟩
    case round =>
      obtain ⟨k, m, hk, hmk, rfl, HX⟩ := hrel
      by_cases hlt : k < l.length
      · have HLk := HH.out.keeps (HK1.out.trans HX.out.2.1)
        have hix := Sl.at HLk Try.underlying22 Try.sizeOf27 k hlt
        have z0 := HLk.cell Hol.len k hlt 0 _ rfl
        have z1 := HLk.cell Hol.len k hlt 1 _ rfl
        have z2 := HLk.cell Hol.len k hlt 2 _ rfl
        have z3 := HLk.cell Hol.len k hlt 3 _ rfl
        simp only [Nat.add_zero] at z0
        obtain ⟨c0, c1, c2, c3⟩ := HS.out _ HX.out.2.1
        have HT := Lib.hid (take_snoc l k hlt)
        clear HLk
        by_cases hd : l[k].date ≤ d0
        · have HT2 : Hid (sooner d0 (l.take (k + 1)) = sooner d0 (l.take k) ++ [l[k]]) := Lib.hid (by rw [HT.out, sooner_yes hd])
          have e1 : decide (l[k].date ≤ d0) = true := decide_eq_true hd
          clear hd
          go_wp2_with fail
          go_quiet (fail)
          go_wp2_with (at_builtin; refine wpList_appx elemHol rfl _ _ rfl w1 _ _ _ rfl w1.heap.size (own_keepsH HX.out.2.2 ((Keeps.refl wr).drewN _)) (HX.out.2.1.drewN _) (HX.out.2.1.drewN _).size [.int .i64 l[k].holder, .int .i64 l[k].entity, .int .i64 l[k].date, .int .i64 l[k].share] _ 1 rfl rfl rfl (by intro u hu; simp at hu; rcases hu with rfl | rfl | rfl | rfl <;> rfl) (by omega) (by omega) ?_; intro v5 w5 hown5 hb5 hsz5; have HY : Hid ((sooner d0 (l.take (k + 1))).length = m + 1 ∧ Keeps w1 w5 ∧ w5.ownsRow w1.heap.size 27 4 v5 (m + 1) ((sooner d0 (l.take (k + 1))).flatMap Hol.cells)) := (Lib.hid ⟨by rw [HT2.out, List.length_append, HX.out.1]; rfl, hb5, by rw [HT2.out, List.flatMap_append]; exact hown5⟩); clear hown5 hb5 hsz5)
          go_roundw
          case rel => exact ⟨k + 1, m + 1, by omega, by omega, by go_num, HY⟩
          case measure => simp [intOf]; omega
        · have HT2 : Hid (sooner d0 (l.take (k + 1)) = sooner d0 (l.take k)) := Lib.hid (by rw [HT.out, sooner_no hd])
          have e1 : decide (l[k].date ≤ d0) = false := decide_eq_false hd
          clear hd
          go_wp2_with fail
          go_quiet (fail)
          go_wp2_with fail
          go_roundw
          case rel => exact ⟨k + 1, m, by omega, by omega, by go_num, Lib.hid (by rw [HT2.out]; exact ⟨HX.out.1, HX.out.2.1.drewN _, own_keepsH HX.out.2.2 ((Keeps.refl wr).drewN _)⟩)⟩
          case measure => simp [intOf]; omega
      · obtain rfl : k = l.length := by omega
        have hx := HX.out
        rw [List.take_length] at hx
        obtain ⟨rfl, hK, hown⟩ := hx
        obtain ⟨ao7, cap7, b7, rfl, hs7⟩ := Recs.own hown
        have HK := Lib.hid hK
        have HKW := Lib.hid (HK1.out.trans hK)
        have HS7 := Lib.hid hs7
        have hcap7 := Sl.cap hs7
        have hle7 := Sl.le hs7
        have hwsz := HK1.out.size
        clear hK hown hs7 HX
        obtain ⟨s, hs⟩ : ∃ s, atH l p0 p1 d0 = s := ⟨_, rfl⟩
        have HSV := Lib.hid hs
        have HS2 : Hid (∀ w', Keeps wr.drew w' → w'.cell? ⟨w.heap.size, 0, none⟩ = some (.int .i64 p0) ∧ w'.cell? ⟨w.heap.size, 1, none⟩ = some (.int .i64 p1) ∧ w'.cell? ⟨w.heap.size + 1, 0, none⟩ = some (.int .i64 d0) ∧ w'.cell? ⟨w.heap.size + 1, 1, none⟩ = some (.int .i64 d1)) := Lib.hid (fun w' h => HS.out _ (HK.out.drew.trans h))
        have HA1 : Hid (∀ W, Keeps wr.drew W → Calls Try.prog 18 #[.slice ao7 (sooner d0 l).length cap7, .int .i64 p0, .int .i64 p1, .int .i64 d0] W fun en w' => en = .returned (.int .i64 s) ∧ Keeps W w') := Lib.hid (fun W h => by have := hat_any ao7 (sooner d0 l) cap7 b7 0 p0 p1 d0 W (HS7.out.keeps ((Keeps.refl wr).drew.trans h)); rw [atH_sooner, HSV.out] at this; exact this)
        have HA2 : Hid (∀ W, Keeps wr.drew W → Calls Try.prog 18 #[.slice ao l.length cap, .int .i64 p0, .int .i64 p1, .int .i64 d0] W fun en w' => en = .returned (.int .i64 s) ∧ Keeps W w') := Lib.hid (fun W h => by have := hat_any ao l cap b o p0 p1 d0 W (HH.out.keeps (HKW.out.drew.trans h)); rw [HSV.out] at this; exact this)
        clear hs
        go_wp2_with fail
        refine wp_region_steps (A := ?_) Keeps [some 37, some 38, some 39, some 40, some 41, some 42, some 43, some 44, some 45, some 46, some 47, some 48, some 49, some 50, some 51, some 52, some 53] [[], [], [1], [], [3], [], [5], [0, 2, 4, 6], [], [], [9], [], [11], [], [13], [8, 10, 12, 14], [7, 15]] 17 (by kernel_rfl) (by kernel_rfl) (by kernel_rfl) (by kernel_rfl) (by kernel_rfl) (by kernel_rfl) Keeps.refl (fun _ _ _ => Keeps.trans) ?_ ?_
        rotate_left
        · intro f; simp only [putL, Act.put, List.setIfInBounds_toArray, List.set_cons_zero, List.set_cons_succ, Nat.zero_add, Nat.reduceAdd]; exact rfl
        refine Steps.pure (v := ?_) Keeps.refl rfl (fun f w' hR hV => ⟨?_, ?_⟩) ?_
        rotate_left
        · (rfl)
        · (clear hV; obtain ⟨x0, x1, x2, x3⟩ := HS2.out _ hR; go_simp; all_goals (try with_reducible rfl))
        refine Steps.pure (v := ?_) Keeps.refl rfl (fun f w' hR hV => ⟨?_, ?_⟩) ?_
        rotate_left
        · (rfl)
        · (clear hV; obtain ⟨x0, x1, x2, x3⟩ := HS2.out _ hR; go_simp; all_goals (try with_reducible rfl))
        refine Steps.pure (v := ?_) Keeps.refl rfl (fun f w' hR hV => ⟨?_, ?_⟩) ?_
        rotate_left
        · (rfl)
        · (obtain ⟨h1, _⟩ := hV; replace h1 : f 1 = _ := h1; obtain ⟨x0, x1, x2, x3⟩ := HS2.out _ hR; go_simp; all_goals (try with_reducible rfl))
        refine Steps.pure (v := ?_) Keeps.refl rfl (fun f w' hR hV => ⟨?_, ?_⟩) ?_
        rotate_left
        · (rfl)
        · (clear hV; obtain ⟨x0, x1, x2, x3⟩ := HS2.out _ hR; go_simp; all_goals (try with_reducible rfl))
        refine Steps.pure (v := ?_) Keeps.refl rfl (fun f w' hR hV => ⟨?_, ?_⟩) ?_
        rotate_left
        · (rfl)
        · (obtain ⟨h3, _⟩ := hV; replace h3 : f 3 = _ := h3; obtain ⟨x0, x1, x2, x3⟩ := HS2.out _ hR; go_simp; all_goals (try with_reducible rfl))
        refine Steps.pure (v := ?_) Keeps.refl rfl (fun f w' hR hV => ⟨?_, ?_⟩) ?_
        rotate_left
        · (rfl)
        · (clear hV; obtain ⟨x0, x1, x2, x3⟩ := HS2.out _ hR; go_simp; all_goals (try with_reducible rfl))
        refine Steps.pure (v := ?_) Keeps.refl rfl (fun f w' hR hV => ⟨?_, ?_⟩) ?_
        rotate_left
        · (rfl)
        · (obtain ⟨h5, _⟩ := hV; replace h5 : f 5 = _ := h5; obtain ⟨x0, x1, x2, x3⟩ := HS2.out _ hR; go_simp; all_goals (try with_reducible rfl))
        refine Steps.call (fun _ v => v = .int .i64 s) rfl (fun _ _ _ _ h => h) (fun f w' hR hV => ⟨?_, ?_⟩) ?_
        · (rfl)
        · (obtain ⟨h0, h2, h4, h6, _⟩ := hV; replace h0 : f 0 = _ := h0; replace h2 : f 2 = _ := h2; replace h4 : f 4 = _ := h4; replace h6 : f 6 = _ := h6; obtain ⟨x0, x1, x2, x3⟩ := HS2.out _ hR; go_simp; go_at_call 18; refine (HA1.out _ hR).mono ?_; rintro e w2 ⟨rfl, hk2⟩; exact StepPost.of _ rfl rfl hk2)
        refine Steps.pure (v := ?_) Keeps.refl rfl (fun f w' hR hV => ⟨?_, ?_⟩) ?_
        rotate_left
        · (rfl)
        · (clear hV; obtain ⟨x0, x1, x2, x3⟩ := HS2.out _ hR; go_simp; all_goals (try with_reducible rfl))
        refine Steps.pure (v := ?_) Keeps.refl rfl (fun f w' hR hV => ⟨?_, ?_⟩) ?_
        rotate_left
        · (rfl)
        · (clear hV; obtain ⟨x0, x1, x2, x3⟩ := HS2.out _ hR; go_simp; all_goals (try with_reducible rfl))
        refine Steps.pure (v := ?_) Keeps.refl rfl (fun f w' hR hV => ⟨?_, ?_⟩) ?_
        rotate_left
        · (rfl)
        · (obtain ⟨h9, _⟩ := hV; replace h9 : f 9 = _ := h9; obtain ⟨x0, x1, x2, x3⟩ := HS2.out _ hR; go_simp; all_goals (try with_reducible rfl))
        refine Steps.pure (v := ?_) Keeps.refl rfl (fun f w' hR hV => ⟨?_, ?_⟩) ?_
        rotate_left
        · (rfl)
        · (clear hV; obtain ⟨x0, x1, x2, x3⟩ := HS2.out _ hR; go_simp; all_goals (try with_reducible rfl))
        refine Steps.pure (v := ?_) Keeps.refl rfl (fun f w' hR hV => ⟨?_, ?_⟩) ?_
        rotate_left
        · (rfl)
        · (obtain ⟨h11, _⟩ := hV; replace h11 : f 11 = _ := h11; obtain ⟨x0, x1, x2, x3⟩ := HS2.out _ hR; go_simp; all_goals (try with_reducible rfl))
        refine Steps.pure (v := ?_) Keeps.refl rfl (fun f w' hR hV => ⟨?_, ?_⟩) ?_
        rotate_left
        · (rfl)
        · (clear hV; obtain ⟨x0, x1, x2, x3⟩ := HS2.out _ hR; go_simp; all_goals (try with_reducible rfl))
        refine Steps.pure (v := ?_) Keeps.refl rfl (fun f w' hR hV => ⟨?_, ?_⟩) ?_
        rotate_left
        · (rfl)
        · (obtain ⟨h13, _⟩ := hV; replace h13 : f 13 = _ := h13; obtain ⟨x0, x1, x2, x3⟩ := HS2.out _ hR; go_simp; all_goals (try with_reducible rfl))
        refine Steps.call (fun _ v => v = .int .i64 s) rfl (fun _ _ _ _ h => h) (fun f w' hR hV => ⟨?_, ?_⟩) ?_
        · (rfl)
        · (obtain ⟨h8, h10, h12, h14, _⟩ := hV; replace h8 : f 8 = _ := h8; replace h10 : f 10 = _ := h10; replace h12 : f 12 = _ := h12; replace h14 : f 14 = _ := h14; obtain ⟨x0, x1, x2, x3⟩ := HS2.out _ hR; go_simp; go_at_call 18; refine (HA2.out _ hR).mono ?_; rintro e w2 ⟨rfl, hk2⟩; exact StepPost.of _ rfl rfl hk2)
        refine Steps.pure (v := .bool false) Keeps.refl rfl (fun f w' hR hV => ⟨?_, ?_⟩) ?_
        · (rfl)
        · (obtain ⟨h7, h15, _⟩ := hV; replace h7 : f 7 = _ := h7; replace h15 : f 15 = _ := h15; obtain ⟨x0, x1, x2, x3⟩ := HS2.out _ hR; go_simp; all_goals (try simp))
        all_goals (refine Steps.done [16] (by kernel_rfl) rfl (fun f wq hR hV => ?_); obtain ⟨h16, _⟩ := hV; replace h16 : f 16 = _ := h16; simp only [h16])
        have HR := Lib.hid (HKW.out.drew.trans hR)
        have HR1 := Lib.hid (HK.out.drew.trans hR)
        clear hR HS2 HA1 HA2
        go_wp2_with (go_at_call 23; refine (hdates_any ao l cap b o _ (HH.out.keeps HR.out) (by omega) (fun x hx => (HO.out x hx).2.2.1)).mono ?_; rintro e w3 ⟨v3, xs, rfl, ⟨ao3, cap3, b3, o3, rfl, hs3⟩, hd3, hk3⟩; have HS3 := Lib.hid hs3; have hcap3 := hs3.cap; have hle3 := hs3.le; have HD3 := Lib.hid hd3; have HK3 := Lib.hid (HR1.out.trans hk3); clear hs3 hd3 hk3)
        go_loopw [10] (fun vi wy => ∃ j : Nat, j ≤ xs.length ∧ vi = .int .i64 j ∧ Hid (∀ i (hi : i < xs.length), i < j → (xs[i] ≤ d0 ↔ xs[i] ≤ d1)) ∧ Hid (Keeps w3 wy)) (fun vi _ => xs.length - (intOf vi).toNat)
        case atStart => exact ⟨0, Nat.zero_le _, rfl, Lib.hid (fun i _ h => absurd h (Nat.not_lt_zero _)), Lib.hid (Keeps.refl _)⟩
        case round =>
          obtain ⟨j, hj, rfl, HN, HY⟩ := hrel
          obtain ⟨wu, rfl⟩ : ∃ wu : World, wu = wr := ⟨_, rfl⟩
          by_cases hjl : j < xs.length
          · have HSj := HS3.out.keeps HY.out
            have hix3 := HSj.at1 Try.underlying31 Try.sizeOf3 j hjl
            have y0 := HSj.int j hjl
            obtain ⟨c0, c1, c2, c3⟩ := HS.out _ (HK3.out.trans HY.out)
            clear HSj
            by_cases he : (xs[j] ≤ d0 ↔ xs[j] ≤ d1)
            · have e1 : (!(decide (xs[j] ≤ d0) == decide (xs[j] ≤ d1))) = false := by simp [he]
              have HE := Lib.hid he
              clear he
              go_wp2_with fail
              go_quiet (fail)
              go_wp2_with fail
              go_roundw
              case rel => exact ⟨j + 1, by omega, by go_num, Lib.hid (fun i hi hij => by
                rcases Nat.lt_succ_iff_lt_or_eq.1 hij with h | rfl
                · exact HN.out i hi h
                · exact HE.out), Lib.hid (HY.out.drewN _)⟩
              case measure => simp [intOf]; omega
            · have e1 : (!(decide (xs[j] ≤ d0) == decide (xs[j] ≤ d1))) = true := by
                by_cases h1 : xs[j] ≤ d0 <;> by_cases h2 : xs[j] ≤ d1 <;> simp_all
              clear he
              go_wp2_with fail
              go_quiet (fail)
              go_wp2_with fail
              go_ret
              exact ⟨rfl, ((HK1.out.trans HK3.out).trans HY.out).drewN _⟩
          · obtain rfl : j = xs.length := by omega
            have hall : ∀ x ∈ l, (x.date ≤ d0 ↔ x.date ≤ d1) := fun x hx => by
              obtain ⟨i, hi, e⟩ := List.getElem_of_mem ((HD3.out.2 x.date).2 ⟨x, hx, rfl⟩)
              rw [← e]
              exact HN.out i hi hi
            have HKZ := Lib.hid ((HK1.out.trans HK3.out).trans HY.out)
            have HS2 : Hid (∀ w', Keeps wu.drew w' → w'.cell? ⟨w.heap.size, 0, none⟩ = some (.int .i64 p0) ∧ w'.cell? ⟨w.heap.size, 1, none⟩ = some (.int .i64 p1) ∧ w'.cell? ⟨w.heap.size + 1, 0, none⟩ = some (.int .i64 d0) ∧ w'.cell? ⟨w.heap.size + 1, 1, none⟩ = some (.int .i64 d1)) := Lib.hid (fun w' h => HS.out _ ((HK3.out.trans HY.out).drew.trans h))
            have HA1 : Hid (∀ W, Keeps wu.drew W → Calls Try.prog 18 #[.slice ao l.length cap, .int .i64 p0, .int .i64 p1, .int .i64 d0] W fun en w' => en = .returned (.int .i64 s) ∧ Keeps W w') := Lib.hid (fun W h => by have := hat_any ao l cap b o p0 p1 d0 W (HH.out.keeps (HKZ.out.drew.trans h)); rw [HSV.out] at this; exact this)
            have HA2 : Hid (∀ W, Keeps wu.drew W → Calls Try.prog 18 #[.slice ao l.length cap, .int .i64 p0, .int .i64 p1, .int .i64 d1] W fun en w' => en = .returned (.int .i64 s) ∧ Keeps W w') := Lib.hid (fun W h => by have := hat_any ao l cap b o p0 p1 d1 W (HH.out.keeps (HKZ.out.drew.trans h)); rw [← atH_congr p0 p1 hall, HSV.out] at this; exact this)
            clear hall HN
            go_wp2_with fail
            refine wp_region_steps (A := ?_) Keeps [some 77, some 78, some 79, some 80, some 81, some 82, some 83, some 84, some 85, some 86, some 87, some 88, some 89, some 90, some 91, some 92, some 93, some 6] [[], [], [1], [], [3], [], [5], [0, 2, 4, 6], [], [], [9], [], [11], [], [13], [8, 10, 12, 14], [7, 15], [16]] 18 (by kernel_rfl) (by kernel_rfl) (by kernel_rfl) (by kernel_rfl) (by kernel_rfl) (by kernel_rfl) Keeps.refl (fun _ _ _ => Keeps.trans) ?_ ?_
            rotate_left
            · intro f; simp only [putL, Act.put, List.setIfInBounds_toArray, List.set_cons_zero, List.set_cons_succ, Nat.zero_add, Nat.reduceAdd]; exact rfl
            refine Steps.pure (v := ?_) Keeps.refl rfl (fun f w' hR hV => ⟨?_, ?_⟩) ?_
            rotate_left
            · (rfl)
            · (clear hV; obtain ⟨x0, x1, x2, x3⟩ := HS2.out _ hR; go_simp; all_goals (try with_reducible rfl))
            refine Steps.pure (v := ?_) Keeps.refl rfl (fun f w' hR hV => ⟨?_, ?_⟩) ?_
            rotate_left
            · (rfl)
            · (clear hV; obtain ⟨x0, x1, x2, x3⟩ := HS2.out _ hR; go_simp; all_goals (try with_reducible rfl))
            refine Steps.pure (v := ?_) Keeps.refl rfl (fun f w' hR hV => ⟨?_, ?_⟩) ?_
            rotate_left
            · (rfl)
            · (obtain ⟨h1, _⟩ := hV; replace h1 : f 1 = _ := h1; obtain ⟨x0, x1, x2, x3⟩ := HS2.out _ hR; go_simp; all_goals (try with_reducible rfl))
            refine Steps.pure (v := ?_) Keeps.refl rfl (fun f w' hR hV => ⟨?_, ?_⟩) ?_
            rotate_left
            · (rfl)
            · (clear hV; obtain ⟨x0, x1, x2, x3⟩ := HS2.out _ hR; go_simp; all_goals (try with_reducible rfl))
            refine Steps.pure (v := ?_) Keeps.refl rfl (fun f w' hR hV => ⟨?_, ?_⟩) ?_
            rotate_left
            · (rfl)
            · (obtain ⟨h3, _⟩ := hV; replace h3 : f 3 = _ := h3; obtain ⟨x0, x1, x2, x3⟩ := HS2.out _ hR; go_simp; all_goals (try with_reducible rfl))
            refine Steps.pure (v := ?_) Keeps.refl rfl (fun f w' hR hV => ⟨?_, ?_⟩) ?_
            rotate_left
            · (rfl)
            · (clear hV; obtain ⟨x0, x1, x2, x3⟩ := HS2.out _ hR; go_simp; all_goals (try with_reducible rfl))
            refine Steps.pure (v := ?_) Keeps.refl rfl (fun f w' hR hV => ⟨?_, ?_⟩) ?_
            rotate_left
            · (rfl)
            · (obtain ⟨h5, _⟩ := hV; replace h5 : f 5 = _ := h5; obtain ⟨x0, x1, x2, x3⟩ := HS2.out _ hR; go_simp; all_goals (try with_reducible rfl))
            refine Steps.call (fun _ v => v = .int .i64 s) rfl (fun _ _ _ _ h => h) (fun f w' hR hV => ⟨?_, ?_⟩) ?_
            · (rfl)
            · (obtain ⟨h0, h2, h4, h6, _⟩ := hV; replace h0 : f 0 = _ := h0; replace h2 : f 2 = _ := h2; replace h4 : f 4 = _ := h4; replace h6 : f 6 = _ := h6; obtain ⟨x0, x1, x2, x3⟩ := HS2.out _ hR; go_simp; go_at_call 18; refine (HA1.out _ hR).mono ?_; rintro e w2 ⟨rfl, hk2⟩; exact StepPost.of _ rfl rfl hk2)
            refine Steps.pure (v := ?_) Keeps.refl rfl (fun f w' hR hV => ⟨?_, ?_⟩) ?_
            rotate_left
            · (rfl)
            · (clear hV; obtain ⟨x0, x1, x2, x3⟩ := HS2.out _ hR; go_simp; all_goals (try with_reducible rfl))
            refine Steps.pure (v := ?_) Keeps.refl rfl (fun f w' hR hV => ⟨?_, ?_⟩) ?_
            rotate_left
            · (rfl)
            · (clear hV; obtain ⟨x0, x1, x2, x3⟩ := HS2.out _ hR; go_simp; all_goals (try with_reducible rfl))
            refine Steps.pure (v := ?_) Keeps.refl rfl (fun f w' hR hV => ⟨?_, ?_⟩) ?_
            rotate_left
            · (rfl)
            · (obtain ⟨h9, _⟩ := hV; replace h9 : f 9 = _ := h9; obtain ⟨x0, x1, x2, x3⟩ := HS2.out _ hR; go_simp; all_goals (try with_reducible rfl))
            refine Steps.pure (v := ?_) Keeps.refl rfl (fun f w' hR hV => ⟨?_, ?_⟩) ?_
            rotate_left
            · (rfl)
            · (clear hV; obtain ⟨x0, x1, x2, x3⟩ := HS2.out _ hR; go_simp; all_goals (try with_reducible rfl))
            refine Steps.pure (v := ?_) Keeps.refl rfl (fun f w' hR hV => ⟨?_, ?_⟩) ?_
            rotate_left
            · (rfl)
            · (obtain ⟨h11, _⟩ := hV; replace h11 : f 11 = _ := h11; obtain ⟨x0, x1, x2, x3⟩ := HS2.out _ hR; go_simp; all_goals (try with_reducible rfl))
            refine Steps.pure (v := ?_) Keeps.refl rfl (fun f w' hR hV => ⟨?_, ?_⟩) ?_
            rotate_left
            · (rfl)
            · (clear hV; obtain ⟨x0, x1, x2, x3⟩ := HS2.out _ hR; go_simp; all_goals (try with_reducible rfl))
            refine Steps.pure (v := ?_) Keeps.refl rfl (fun f w' hR hV => ⟨?_, ?_⟩) ?_
            rotate_left
            · (rfl)
            · (obtain ⟨h13, _⟩ := hV; replace h13 : f 13 = _ := h13; obtain ⟨x0, x1, x2, x3⟩ := HS2.out _ hR; go_simp; all_goals (try with_reducible rfl))
            refine Steps.call (fun _ v => v = .int .i64 s) rfl (fun _ _ _ _ h => h) (fun f w' hR hV => ⟨?_, ?_⟩) ?_
            · (rfl)
            · (obtain ⟨h8, h10, h12, h14, _⟩ := hV; replace h8 : f 8 = _ := h8; replace h10 : f 10 = _ := h10; replace h12 : f 12 = _ := h12; replace h14 : f 14 = _ := h14; obtain ⟨x0, x1, x2, x3⟩ := HS2.out _ hR; go_simp; go_at_call 18; refine (HA2.out _ hR).mono ?_; rintro e w2 ⟨rfl, hk2⟩; exact StepPost.of _ rfl rfl hk2)
            refine Steps.pure (v := .bool true) Keeps.refl rfl (fun f w' hR hV => ⟨?_, ?_⟩) ?_
            · (rfl)
            · (obtain ⟨h7, h15, _⟩ := hV; replace h7 : f 7 = _ := h7; replace h15 : f 15 = _ := h15; obtain ⟨x0, x1, x2, x3⟩ := HS2.out _ hR; go_simp; all_goals (try simp))
            refine Steps.pure (v := ?_) Keeps.refl rfl (fun f w' hR hV => ⟨?_, ?_⟩) ?_
            rotate_left
            · (rfl)
            · (obtain ⟨h16, _⟩ := hV; replace h16 : f 16 = _ := h16; obtain ⟨x0, x1, x2, x3⟩ := HS2.out _ hR; go_simp; all_goals (try with_reducible rfl))
            all_goals (refine Steps.done [17] (by kernel_rfl) rfl (fun f wz hR hV => ?_); obtain ⟨h17, _⟩ := hV; replace h17 : f 17 = _ := h17; simp only [h17])
            have HRZ := Lib.hid (HKZ.out.drew.trans hR)
            clear hR
            go_wp2_with fail
            go_ret
            exact ⟨rfl, HRZ.out⟩
  · have hl2 : decide ((30 : Int) < (l.length : Int)) = true := decide_eq_true (by omega)
    go_enter Try.func6, Try.ntmps6
    go_wp2_with (first | (go_at_call 15; refine (hawake_any _).mono ?_; rintro e w1 ⟨rfl, hk1⟩; have HK1 := Lib.hid ((((Keeps.refl w).alloc _).alloc _).trans hk1); clear hk1))
    all_goals (go_ret)
    all_goals (exact ⟨rfl, HK1.out⟩)
end Go.Proofs.Ytmlpdpacefnngaa
