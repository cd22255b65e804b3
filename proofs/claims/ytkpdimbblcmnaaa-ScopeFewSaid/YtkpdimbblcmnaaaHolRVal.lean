/- The reference's Valid of holdings: the walk. -/
import Derived.Test.YtkpdimbblcmnaaaHolValW
import Derived.Test.YtkpdimbblcmnaaaKBase
namespace Go.Proofs.Ytkpdimbblcmnaaa
open Go.RowKit
set_option linter.unusedSimpArgs false
set_option linter.unusedVariables false

theorem any_take_noH {ls : List Hol} {k : Nat} (hk : k < ls.length) (h : ∀ i (hi : i < ls.length), i < k → sameH ls[i] ls[k] = false) : (ls.take k).any (fun a => sameH a ls[k]) = false := by
  rw [Bool.eq_false_iff]
  intro h1
  rw [List.any_eq_true] at h1
  obtain ⟨a, ha, h2⟩ := h1
  obtain ⟨i, hi, rfl⟩ := List.getElem_of_mem ha
  rw [List.length_take] at hi
  rw [List.getElem_take] at h2
  rw [h i (by omega) (by omega)] at h2
  cases h2
theorem any_take_yesH {ls : List Hol} {k i : Nat} (hk : k < ls.length) (hi : i < k) (h : sameH (ls[i]'(by omega)) ls[k] = true) : (ls.take k).any (fun a => sameH a ls[k]) = true := by
  rw [List.any_eq_true]
  refine ⟨ls[i]'(by omega), ?_, h⟩
  rw [List.mem_take_iff_getElem]
  exact ⟨i, by omega, rfl⟩
set_option maxRecDepth 100000 in
set_option maxHeartbeats 4000000 in
theorem hrvalid_any (n : Int) (ao : Option Addr) (l : List Hol) (cap b o : Nat) (w : World) (H : Hols w ao l cap b o) (hlen : l.length ≤ 1000) :
    Calls Try.prog 39 #[.int .i64 n, .slice ao l.length cap] w fun en w' => en = .returned (.bool (hvalidB n l)) ∧ Keeps w w' := by
  have hcap := Sl.cap H
  have hle := Sl.le H
  have HH := Lib.hid H
  clear H
  by_cases hs : 1 ≤ n ∧ n ≤ 12 ∧ l.length ≤ 200
  · obtain ⟨h1, h2, h3⟩ := hs
    go_enter Try.func39, Try.ntmps39
    go_wp2_with fail
    go_loopw [5] (fun vi wr => ∃ k : Nat, k ≤ l.length ∧ vi = .int .i64 k ∧ Hid (∀ j < k, okH n l j = true) ∧ Hid (Keeps w wr)) (fun vi _ => l.length - (intOf vi).toNat)
    case atStart => exact ⟨0, Nat.zero_le _, rfl, Lib.hid (fun j hj => absurd hj (Nat.not_lt_zero _)), Lib.hid (Keeps.refl w)⟩
    case round =>
      obtain ⟨k, hk, rfl, HN, HW⟩ := hrel
      by_cases hlt : k < l.length
      · have HL := HH.out.keeps HW.out
        have hix := Sl.at HL Try.underlying23 Try.sizeOf46 k hlt
        have c0 := HL.cell Hol.len k hlt 0 _ rfl
        have c1 := HL.cell Hol.len k hlt 1 _ rfl
        have c2 := HL.cell Hol.len k hlt 2 _ rfl
        have c3 := HL.cell Hol.len k hlt 3 _ rfl
        simp only [Nat.add_zero] at c0
        have hokk := okH_at (n := n) hlt
        obtain ⟨pr, hpr⟩ : ∃ pr, properB n l[k] = pr := ⟨_, rfl⟩
        rw [hpr] at hokk
        have HP : Hid (∀ W, Calls Try.prog 41 #[.int .i64 n, .agg #[.int .i64 l[k].holder, .int .i64 l[k].entity, .int .i64 l[k].date, .int .i64 l[k].share]] W fun en w' => en = .returned (.bool pr) ∧ Keeps W w') := Lib.hid (fun W => by have := rproperH_any n l[k] W; rw [hpr] at this; exact this)
        clear HL hpr
        cases pr with
        | false =>
          have HQ := Lib.hid (hvalidB_bad hlt (hokk.trans (Bool.false_and _)))
          clear hokk
          go_wp2_with (go_at_call 41; refine (HP.out _).mono ?_; rintro en w1 ⟨rfl, hk1⟩; have K1 := Lib.hid (HW.out.trans hk1); clear hk1)
          go_ret
          rw [HQ.out]
          exact ⟨rfl, K1.out⟩
        | true =>
          rw [Bool.true_and] at hokk
          have HOK := Lib.hid hokk
          have HC := Lib.hid (And.intro c0 (And.intro c1 (And.intro c2 c3)))
          clear hokk
          go_wp2_with (go_at_call 41; refine (HP.out _).mono ?_; rintro en w1 ⟨rfl, hk1⟩; have K1 := Lib.hid (HW.out.trans hk1); clear hk1)
          clear c0 c1 c2 c3
          go_loopw [6] (fun vi wy => ∃ j : Nat, j ≤ k ∧ vi = .int .i64 j ∧ Hid (∀ i (hi : i < l.length), i < j → sameH l[i] l[k] = false) ∧ Hid (Keeps w1 wy)) (fun vi _ => k - (intOf vi).toNat)
          case atStart => exact ⟨0, Nat.zero_le _, rfl, Lib.hid (fun i _ h => absurd h (Nat.not_lt_zero _)), Lib.hid (Keeps.refl w1)⟩
          case round =>
            obtain ⟨j, hj, rfl, HNI, HY⟩ := hrel
            by_cases hjk : j < k
            · have HLj := HH.out.keeps (K1.out.trans HY.out)
              have hiy := Sl.at HLj Try.underlying23 Try.sizeOf46 j (by omega)
              have HS : Hid (∀ w', Keeps wr.drew w' → (w'.cell? ⟨b, o + k * 4, none⟩ = some (.int .i64 l[k].holder) ∧ w'.cell? ⟨b, o + k * 4 + 1, none⟩ = some (.int .i64 l[k].entity) ∧ w'.cell? ⟨b, o + k * 4 + 2, none⟩ = some (.int .i64 l[k].date) ∧ w'.cell? ⟨b, o + k * 4 + 3, none⟩ = some (.int .i64 l[k].share)) ∧ (w'.cell? ⟨b, o + j * 4, none⟩ = some (.int .i64 (l[j]'(by omega)).holder) ∧ w'.cell? ⟨b, o + j * 4 + 1, none⟩ = some (.int .i64 (l[j]'(by omega)).entity) ∧ w'.cell? ⟨b, o + j * 4 + 2, none⟩ = some (.int .i64 (l[j]'(by omega)).date) ∧ w'.cell? ⟨b, o + j * 4 + 3, none⟩ = some (.int .i64 (l[j]'(by omega)).share))) := Lib.hid (fun w' h => by
                have hL := HH.out.keeps ((K1.out.trans HY.out).drew.trans h)
                have z0 := hL.cell Hol.len k hlt 0 _ rfl
                have y0 := hL.cell Hol.len j (by omega) 0 _ rfl
                simp only [Nat.add_zero] at z0 y0
                exact ⟨⟨z0, hL.cell Hol.len k hlt 1 _ rfl, hL.cell Hol.len k hlt 2 _ rfl, hL.cell Hol.len k hlt 3 _ rfl⟩, ⟨y0, hL.cell Hol.len j (by omega) 1 _ rfl, hL.cell Hol.len j (by omega) 2 _ rfl, hL.cell Hol.len j (by omega) 3 _ rfl⟩⟩)
              obtain ⟨sm, hsm⟩ : ∃ sm, sameH (l[j]'(by omega)) l[k] = sm := ⟨_, rfl⟩
              have HX : Hid (∀ W, Calls Try.prog 42 #[.agg #[.int .i64 (l[j]'(by omega)).holder, .int .i64 (l[j]'(by omega)).entity, .int .i64 (l[j]'(by omega)).date, .int .i64 (l[j]'(by omega)).share], .agg #[.int .i64 l[k].holder, .int .i64 l[k].entity, .int .i64 l[k].date, .int .i64 l[k].share]] W fun en w' => en = .returned (.bool sm) ∧ Keeps W w') := Lib.hid (fun W => by have := rsame_any (l[j]'(by omega)) l[k] W; rw [hsm] at this; exact this)
              have HSM := Lib.hid hsm
              clear HLj hsm
              go_wp2_with fail
              refine wp_region_steps (A := ?_) Keeps [some 37, some 38, some 39, some 40, some 41, some 42, some 43, some 44, some 45] [[], [], [0, 1], [2], [], [], [4, 5], [6], [3, 7]] 9 (by kernel_rfl) (by kernel_rfl) (by kernel_rfl) (by kernel_rfl) (by kernel_rfl) (by kernel_rfl) Keeps.refl (fun _ _ _ => Keeps.trans) ?_ ?_
              rotate_left
              · intro f; simp only [putL, Act.put, List.setIfInBounds_toArray, List.set_cons_zero, List.set_cons_succ, Nat.zero_add, Nat.reduceAdd]; exact rfl
              refine Steps.pure (v := ?_) Keeps.refl rfl (fun f w' hR hV => ⟨?_, ?_⟩) ?_
              rotate_left
              · (rfl)
              · (clear hV; obtain ⟨⟨z0, z1, z2, z3⟩, ⟨y0, y1, y2, y3⟩⟩ := HS.out _ hR; go_simp; all_goals (try with_reducible rfl))
              refine Steps.pure (v := ?_) Keeps.refl rfl (fun f w' hR hV => ⟨?_, ?_⟩) ?_
              rotate_left
              · (rfl)
              · (clear hV; obtain ⟨⟨z0, z1, z2, z3⟩, ⟨y0, y1, y2, y3⟩⟩ := HS.out _ hR; go_simp; all_goals (try with_reducible rfl))
              refine Steps.pure (v := ?_) Keeps.refl rfl (fun f w' hR hV => ⟨?_, ?_⟩) ?_
              rotate_left
              · (rfl)
              · (obtain ⟨h0, h1, _⟩ := hV; replace h0 : f 0 = _ := h0; replace h1 : f 1 = _ := h1; obtain ⟨⟨z0, z1, z2, z3⟩, ⟨y0, y1, y2, y3⟩⟩ := HS.out _ hR; go_simp; all_goals (try with_reducible rfl))
              refine Steps.pure (v := ?_) Keeps.refl rfl (fun f w' hR hV => ⟨?_, ?_⟩) ?_
              rotate_left
              · (rfl)
              · (obtain ⟨h2, _⟩ := hV; replace h2 : f 2 = _ := h2; obtain ⟨⟨z0, z1, z2, z3⟩, ⟨y0, y1, y2, y3⟩⟩ := HS.out _ hR; go_simp; all_goals (try with_reducible rfl))
              refine Steps.pure (v := ?_) Keeps.refl rfl (fun f w' hR hV => ⟨?_, ?_⟩) ?_
              rotate_left
              · (rfl)
              · (clear hV; obtain ⟨⟨z0, z1, z2, z3⟩, ⟨y0, y1, y2, y3⟩⟩ := HS.out _ hR; go_simp; all_goals (try with_reducible rfl))
              refine Steps.pure (v := ?_) Keeps.refl rfl (fun f w' hR hV => ⟨?_, ?_⟩) ?_
              rotate_left
              · (rfl)
              · (clear hV; obtain ⟨⟨z0, z1, z2, z3⟩, ⟨y0, y1, y2, y3⟩⟩ := HS.out _ hR; go_simp; all_goals (try with_reducible rfl))
              refine Steps.pure (v := ?_) Keeps.refl rfl (fun f w' hR hV => ⟨?_, ?_⟩) ?_
              rotate_left
              · (rfl)
              · (obtain ⟨h4, h5, _⟩ := hV; replace h4 : f 4 = _ := h4; replace h5 : f 5 = _ := h5; obtain ⟨⟨z0, z1, z2, z3⟩, ⟨y0, y1, y2, y3⟩⟩ := HS.out _ hR; go_simp; all_goals (try with_reducible rfl))
              refine Steps.pure (v := ?_) Keeps.refl rfl (fun f w' hR hV => ⟨?_, ?_⟩) ?_
              rotate_left
              · (rfl)
              · (obtain ⟨h6, _⟩ := hV; replace h6 : f 6 = _ := h6; obtain ⟨⟨z0, z1, z2, z3⟩, ⟨y0, y1, y2, y3⟩⟩ := HS.out _ hR; go_simp; all_goals (try with_reducible rfl))
              refine Steps.call (fun _ v => v = .bool sm) rfl (fun _ _ _ _ h => h) (fun f w' hR hV => ⟨?_, ?_⟩) ?_
              · (rfl)
              · (obtain ⟨h3, h7, _⟩ := hV; replace h3 : f 3 = _ := h3; replace h7 : f 7 = _ := h7; obtain ⟨⟨z0, z1, z2, z3⟩, ⟨y0, y1, y2, y3⟩⟩ := HS.out _ hR; go_simp; go_at_call 42; refine (HX.out _).mono ?_; rintro e w2 ⟨rfl, hk2⟩; exact StepPost.of _ rfl rfl hk2)
              all_goals (refine Steps.done [8] (by kernel_rfl) rfl (fun f wq hR hV => ?_); obtain ⟨h8, _⟩ := hV; replace h8 : f 8 = _ := h8; simp only [h8])
              have HR := Lib.hid (HY.out.drew.trans hR)
              clear hR
              cases sm with
              | true =>
                have HQ := Lib.hid (hvalidB_bad hlt (HOK.out.trans (by rw [any_take_yesH hlt hjk HSM.out]; rfl)))
                go_wp2
                go_ret
                rw [HQ.out]
                exact ⟨rfl, K1.out.trans HR.out⟩
              | false =>
                go_wp2_with fail
                go_roundw
                case rel => exact ⟨j + 1, by omega, by go_num, Lib.hid (fun i hi hij => by
                  rcases Nat.lt_succ_iff_lt_or_eq.1 hij with h | rfl
                  · exact HNI.out i hi h
                  · exact HSM.out), HR⟩
                case measure => simp [intOf]; omega
            · obtain rfl : j = k := by omega
              have HOK2 := Lib.hid (HOK.out.trans (by rw [any_take_noH hlt HNI.out]))
              go_wp2_with fail
              go_roundw
              case rel => exact ⟨j + 1, by omega, by go_num, Lib.hid (fun i hi => by
                rcases Nat.lt_succ_iff_lt_or_eq.1 hi with h | rfl
                · exact HN.out i h
                · exact HOK2.out), Lib.hid (K1.out.trans HY.out)⟩
              case measure => simp [intOf]; omega
      · obtain rfl : k = l.length := by omega
        have HR := Lib.hid (hvalidB_rest h1 h2 h3 HN.out)
        have hpr := okH_proper HN.out
        have HT : Hid (∀ (e d : Int) W, Hols W ao l cap b o → Calls Try.prog 55 #[.slice ao l.length cap, .int .i64 e, .int .i64 d] W fun en w' => en = .returned (.int .i64 (totH l e d)) ∧ Keeps W w') := Lib.hid (fun e d W h => rtotal_any ao l cap b o e d W h hlen (ShB.of hpr))
        clear hpr HN
        go_wp2_with fail
        obtain ⟨wo, rfl⟩ : ∃ wo : World, wo = wr := ⟨_, rfl⟩
        go_loopw [7] (fun vi wy => ∃ j : Nat, j ≤ l.length ∧ vi = .int .i64 j ∧ Hid (∀ i (hi : i < l.length), i < j → totH l l[i].entity l[i].date ≤ 10000) ∧ Hid (Keeps w wy)) (fun vi _ => l.length - (intOf vi).toNat)
        case atStart => exact ⟨0, Nat.zero_le _, rfl, Lib.hid (fun i _ h => absurd h (Nat.not_lt_zero _)), HW⟩
        case round =>
          obtain ⟨j, hj, rfl, HJ, HY⟩ := hrel
          by_cases hjl : j < l.length
          · have HLj := HH.out.keeps HY.out
            have hiy := Sl.at HLj Try.underlying23 Try.sizeOf46 j hjl
            have HS : Hid (∀ w', Keeps wr.drew w' → w'.cell? ⟨b, o + j * 4 + 1, none⟩ = some (.int .i64 l[j].entity) ∧ w'.cell? ⟨b, o + j * 4 + 2, none⟩ = some (.int .i64 l[j].date)) := Lib.hid (fun w' h => by
              have hL := HH.out.keeps (HY.out.drew.trans h)
              exact ⟨hL.cell Hol.len j hjl 1 _ rfl, hL.cell Hol.len j hjl 2 _ rfl⟩)
            obtain ⟨t, ht⟩ : ∃ t, totH l l[j].entity l[j].date = t := ⟨_, rfl⟩
            have HX : Hid (∀ W, Hols W ao l cap b o → Calls Try.prog 55 #[.slice ao l.length cap, .int .i64 l[j].entity, .int .i64 l[j].date] W fun en w' => en = .returned (.int .i64 t) ∧ Keeps W w') := Lib.hid (fun W h => by have := HT.out l[j].entity l[j].date W h; rw [ht] at this; exact this)
            have HTT := Lib.hid ht
            clear HLj ht
            go_wp2_with fail
            refine wp_region_steps (A := ?_) Keeps [some 52, some 53, some 54, some 55, some 56, some 57, some 58, some 59, some 60, some 61, some 62, some 63, some 64] [[], [], [], [1, 2], [3], [4], [], [], [6, 7], [8], [9], [0, 5, 10], [11]] 13 (by kernel_rfl) (by kernel_rfl) (by kernel_rfl) (by kernel_rfl) (by kernel_rfl) (by kernel_rfl) Keeps.refl (fun _ _ _ => Keeps.trans) ?_ ?_
            rotate_left
            · intro f; simp only [putL, Act.put, List.setIfInBounds_toArray, List.set_cons_zero, List.set_cons_succ, Nat.zero_add, Nat.reduceAdd]; exact rfl
            refine Steps.pure (v := ?_) Keeps.refl rfl (fun f w' hR hV => ⟨?_, ?_⟩) ?_
            rotate_left
            · (rfl)
            · (clear hV; obtain ⟨y1, y2⟩ := HS.out _ hR; go_simp; all_goals (try with_reducible rfl))
            refine Steps.pure (v := ?_) Keeps.refl rfl (fun f w' hR hV => ⟨?_, ?_⟩) ?_
            rotate_left
            · (rfl)
            · (clear hV; obtain ⟨y1, y2⟩ := HS.out _ hR; go_simp; all_goals (try with_reducible rfl))
            refine Steps.pure (v := ?_) Keeps.refl rfl (fun f w' hR hV => ⟨?_, ?_⟩) ?_
            rotate_left
            · (rfl)
            · (clear hV; obtain ⟨y1, y2⟩ := HS.out _ hR; go_simp; all_goals (try with_reducible rfl))
            refine Steps.pure (v := ?_) Keeps.refl rfl (fun f w' hR hV => ⟨?_, ?_⟩) ?_
            rotate_left
            · (rfl)
            · (obtain ⟨h1, h2, _⟩ := hV; replace h1 : f 1 = _ := h1; replace h2 : f 2 = _ := h2; obtain ⟨y1, y2⟩ := HS.out _ hR; go_simp; all_goals (try with_reducible rfl))
            refine Steps.pure (v := ?_) Keeps.refl rfl (fun f w' hR hV => ⟨?_, ?_⟩) ?_
            rotate_left
            · (rfl)
            · (obtain ⟨h3, _⟩ := hV; replace h3 : f 3 = _ := h3; obtain ⟨y1, y2⟩ := HS.out _ hR; go_simp; all_goals (try with_reducible rfl))
            refine Steps.pure (v := ?_) Keeps.refl rfl (fun f w' hR hV => ⟨?_, ?_⟩) ?_
            rotate_left
            · (rfl)
            · (obtain ⟨h4, _⟩ := hV; replace h4 : f 4 = _ := h4; obtain ⟨y1, y2⟩ := HS.out _ hR; go_simp; all_goals (try with_reducible rfl))
            refine Steps.pure (v := ?_) Keeps.refl rfl (fun f w' hR hV => ⟨?_, ?_⟩) ?_
            rotate_left
            · (rfl)
            · (clear hV; obtain ⟨y1, y2⟩ := HS.out _ hR; go_simp; all_goals (try with_reducible rfl))
            refine Steps.pure (v := ?_) Keeps.refl rfl (fun f w' hR hV => ⟨?_, ?_⟩) ?_
            rotate_left
            · (rfl)
            · (clear hV; obtain ⟨y1, y2⟩ := HS.out _ hR; go_simp; all_goals (try with_reducible rfl))
            refine Steps.pure (v := ?_) Keeps.refl rfl (fun f w' hR hV => ⟨?_, ?_⟩) ?_
            rotate_left
            · (rfl)
            · (obtain ⟨h6, h7, _⟩ := hV; replace h6 : f 6 = _ := h6; replace h7 : f 7 = _ := h7; obtain ⟨y1, y2⟩ := HS.out _ hR; go_simp; all_goals (try with_reducible rfl))
            refine Steps.pure (v := ?_) Keeps.refl rfl (fun f w' hR hV => ⟨?_, ?_⟩) ?_
            rotate_left
            · (rfl)
            · (obtain ⟨h8, _⟩ := hV; replace h8 : f 8 = _ := h8; obtain ⟨y1, y2⟩ := HS.out _ hR; go_simp; all_goals (try with_reducible rfl))
            refine Steps.pure (v := ?_) Keeps.refl rfl (fun f w' hR hV => ⟨?_, ?_⟩) ?_
            rotate_left
            · (rfl)
            · (obtain ⟨h9, _⟩ := hV; replace h9 : f 9 = _ := h9; obtain ⟨y1, y2⟩ := HS.out _ hR; go_simp; all_goals (try with_reducible rfl))
            refine Steps.call (fun _ v => v = .int .i64 t) rfl (fun _ _ _ _ h => h) (fun f w' hR hV => ⟨?_, ?_⟩) ?_
            · (rfl)
            · (obtain ⟨h0, h5, h10, _⟩ := hV; replace h0 : f 0 = _ := h0; replace h5 : f 5 = _ := h5; replace h10 : f 10 = _ := h10; obtain ⟨y1, y2⟩ := HS.out _ hR; go_simp; go_at_call 55; refine (HX.out _ (HH.out.keeps (HY.out.drew.trans hR))).mono ?_; rintro e w2 ⟨rfl, hk2⟩; exact StepPost.of _ rfl rfl hk2)
            refine Steps.pure (v := ?_) Keeps.refl rfl (fun f w' hR hV => ⟨?_, ?_⟩) ?_
            rotate_left
            · (rfl)
            · (obtain ⟨h11, _⟩ := hV; replace h11 : f 11 = _ := h11; obtain ⟨y1, y2⟩ := HS.out _ hR; go_simp; all_goals (try with_reducible rfl))
            all_goals (refine Steps.done [12] (by kernel_rfl) rfl (fun f wq hR hV => ?_); obtain ⟨h12, _⟩ := hV; replace h12 : f 12 = _ := h12; simp only [h12])
            have HRR := Lib.hid (HY.out.drew.trans hR)
            clear hR
            by_cases htt : t ≤ 10000
            · have ht2 : decide (10000 < t) = false := decide_eq_false (by omega)
              go_wp2_with fail
              go_roundw
              case rel => exact ⟨j + 1, by omega, by go_num, Lib.hid (fun i hi hij => by
                rcases Nat.lt_succ_iff_lt_or_eq.1 hij with h | rfl
                · exact HJ.out i hi h
                · rw [HTT.out]; exact htt), HRR⟩
              case measure => simp [intOf]; omega
            · have ht2 : decide (10000 < t) = true := decide_eq_true (by omega)
              have HQ := Lib.hid (HR.out.trans (sums_bad (by rw [HTT.out]; exact htt)))
              go_wp2_with fail
              go_ret
              rw [HQ.out]
              exact ⟨rfl, HRR.out⟩
          · obtain rfl : j = l.length := by omega
            have HQ := Lib.hid (HR.out.trans (sums_good (fun x hx => by
              obtain ⟨i, hi, rfl⟩ := List.getElem_of_mem hx
              exact HJ.out i hi hi)))
            go_wp2_with fail
            go_ret
            rw [HQ.out]
            exact ⟨rfl, HY.out⟩
  · have HQ := Lib.hid (hvalidB_size (n := n) (l := l) hs)
    by_cases h1 : n < 1
    · go_enter Try.func39, Try.ntmps39
      go_wp2
      go_ret
      rw [HQ.out]
      exact ⟨rfl, Keeps.refl w⟩
    · by_cases h2 : 12 < n
      · go_enter Try.func39, Try.ntmps39
        go_wp2
        go_ret
        rw [HQ.out]
        exact ⟨rfl, Keeps.refl w⟩
      · have h3 : 200 < l.length := by omega
        clear hs
        go_enter Try.func39, Try.ntmps39
        go_wp2
        go_ret
        rw [HQ.out]
        exact ⟨rfl, Keeps.refl w⟩
end Go.Proofs.Ytkpdimbblcmnaaa
