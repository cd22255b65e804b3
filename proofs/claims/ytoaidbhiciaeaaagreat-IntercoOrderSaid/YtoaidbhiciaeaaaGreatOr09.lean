/- Walks and plain facts that the claim rests on (ValidPW). No condition. -/
import Derived.Test.YtoaidbhiciaeaaaGreatOr08
section
namespace Go.Proofs.YtoaidbhiciaeaaaGreat
open Go.RowKit
set_option linter.unusedSimpArgs false
set_option linter.unusedVariables false
theorem validPB_bad {l : List Acc} {group : Bool} {k : Nat} (hk : k < l.length) (h : okP l group k = false) : validPB l group = false := by
  unfold validPB; rw [all_range_false hk h, Bool.false_and]
theorem validPB_good {l : List Acc} {group : Bool} (h : ∀ k < l.length, okP l group k = true) : validPB l group = decide (l.length ≤ 200) := by
  unfold validPB
  rw [List.all_eq_true.2 (fun k hk => h k (List.mem_range.1 hk)), Bool.true_and]
theorem findA_own {l : List Acc} {k : Nat} (hk : k < l.length) : (findA l l[k].code).isSome = true := by
  unfold findA
  rw [List.find?_isSome]
  exact ⟨l[k], List.getElem_mem hk, by simp⟩
set_option maxRecDepth 100000 in
set_option maxHeartbeats 4000000 in
theorem valid_any (l : List Acc) (group : Bool) (ao : Option Addr) (cap b o : Nat) (w : World) (H : Accs w ao l cap b o) (hl : l.length ≤ 200) (hok : ∀ x ∈ l, I64 x.code ∧ I64 x.parent) :
    Calls Tryz.prog 98 #[.slice ao l.length cap, .bool group] w fun e w' => e = .returned (.bool (validPB l group)) ∧ Keeps w w' := by
  have hcap := Sl.cap H
  have hle := Sl.le H
  have HH := Lib.hid H
  have HO := Lib.hid hok
  clear H hok
  go_enter Tryz.func98, Tryz.ntmps98
  go_wp2_with fail
  go_loopw [9] (fun vi wr => ∃ k : Nat, k ≤ l.length ∧ vi = .int .i64 k ∧ Hid (∀ j < k, okP l group j = true) ∧ Hid (Keeps w wr)) (fun vi _ => l.length - (intOf vi).toNat)
  case atStart => exact ⟨0, Nat.zero_le _, rfl, Lib.hid (fun j hj => absurd hj (Nat.not_lt_zero _)), Lib.hid (Keeps.refl w)⟩
  case round =>
    obtain ⟨k, hk, rfl, HN, HW⟩ := hrel
    by_cases hlt : k < l.length
    · have HL := HH.out.keeps HW.out
      have hix := Sl.at HL Tryz.underlying24 Tryz.sizeOf68 k hlt
      have c0 := HL.cell Acc.len k hlt 0 _ rfl
      have c1 := HL.cell Acc.len k hlt 1 _ rfl
      have c2 := HL.cell Acc.len k hlt 2 _ rfl
      have c3 := HL.cell Acc.len k hlt 3 _ rfl
      simp only [Nat.add_zero] at c0
      obtain ⟨pr, hpr⟩ : ∃ pr, properPB l l[k] group = pr := ⟨_, rfl⟩
      have hok := okP_proper (group := group) hlt
      rw [hpr] at hok
      have HP : Hid (∀ W, Accs W ao l cap b o → Calls Tryz.prog 144 #[.slice ao l.length cap, .agg #[.int .i64 l[k].code, .int .i64 l[k].kind, .int .i64 l[k].basis, .int .i64 l[k].parent], .bool group] W fun e w' => e = .returned (.bool pr) ∧ Keeps W w') := Lib.hid (fun W h => by have := proper_any l l[k] group ao cap b o W h (by omega) (HO.out _ (List.getElem_mem _)).1 (fun x hx => (HO.out x hx).2) (findA_own hlt); rw [hpr] at this; exact this)
      clear hpr
      cases k with
      | zero =>
        rw [riseB_zero, Bool.true_and] at hok
        have HOK := Lib.hid hok
        simp only [Nat.zero_mul, Nat.add_zero, Int.natCast_zero] at hix c0 c1 c2 c3
        have HS : Hid (∀ w', Keeps (wr.alloc (.cells #[.int .i64 l[0].code, .int .i64 l[0].kind, .int .i64 l[0].basis, .int .i64 l[0].parent] 68)).drew w' → w'.cell? ⟨wr.heap.size, 0, none⟩ = some (.int .i64 l[0].code) ∧ w'.cell? ⟨wr.heap.size, 1, none⟩ = some (.int .i64 l[0].kind) ∧ w'.cell? ⟨wr.heap.size, 2, none⟩ = some (.int .i64 l[0].basis) ∧ w'.cell? ⟨wr.heap.size, 3, none⟩ = some (.int .i64 l[0].parent) ∧ True) := Lib.hid (fun w' h => ⟨h.cell (p := ⟨wr.heap.size, 0, none⟩) (by go_simp), h.cell (p := ⟨wr.heap.size, 1, none⟩) (by go_simp), h.cell (p := ⟨wr.heap.size, 2, none⟩) (by go_simp), h.cell (p := ⟨wr.heap.size, 3, none⟩) (by go_simp), trivial⟩)
        clear HL hok
        go_wp2_with fail
        clear c0 c1 c2 c3
        refine wp_region_steps (A := ?_) Keeps [some 14, some 15, some 16, some 17, some 18, some 19, some 20, some 21, some 22, some 23, some 24, some 25, some 26, some 27, some 28, some 29, some 30, some 31, some 32, some 33] [[], [0], [1], [2], [2], [2, 4], [2, 3, 5], [2, 6], [2, 7], [2], [2, 9], [2, 8, 10], [2, 11], [12], [13], [13], [13], [13, 14, 15, 16], [13, 17], [13, 18]] 20 (by kernel_rfl) (by kernel_rfl) (by kernel_rfl) (by kernel_rfl) (by kernel_rfl) (by kernel_rfl) Keeps.refl (fun _ _ _ => Keeps.trans) ?_ ?_
        rotate_left
        · intro f; simp only [putL, Act.put, List.setIfInBounds_toArray, List.set_cons_zero, List.set_cons_succ, Nat.zero_add, Nat.reduceAdd]; exact rfl
        refine Steps.pure (v := ?_) Keeps.refl rfl (fun f w' hR hV => ⟨?_, ?_⟩) ?_
        rotate_left
        · (rfl)
        · (clear hV; obtain ⟨c0, c1, c2, c3, d0⟩ := HS.out _ hR; go_simp; all_goals (try with_reducible rfl))
        refine Steps.pure (v := ?_) Keeps.refl rfl (fun f w' hR hV => ⟨?_, ?_⟩) ?_
        rotate_left
        · (rfl)
        · (obtain ⟨h0, _⟩ := hV; replace h0 : f 0 = _ := h0; obtain ⟨c0, c1, c2, c3, d0⟩ := HS.out _ hR; go_simp; all_goals (try with_reducible rfl))
        refine Steps.pure (v := ?_) Keeps.refl rfl (fun f w' hR hV => ⟨?_, ?_⟩) ?_
        rotate_left
        · (rfl)
        · (obtain ⟨h1, _⟩ := hV; replace h1 : f 1 = _ := h1; obtain ⟨c0, c1, c2, c3, d0⟩ := HS.out _ hR; go_simp; all_goals (try with_reducible rfl))
        all_goals first
          | (refine Steps.pure (v := ?_) Keeps.refl rfl (fun f w' hR hV => ⟨?_, ?_⟩) ?_
             rotate_left
             · (obtain ⟨h2, _⟩ := hV; replace h2 : f 2 = _ := h2; exact want_yes (t := 16) rfl (by kernel_rfl) rfl h2)
             · (obtain ⟨h2, _⟩ := hV; replace h2 : f 2 = _ := h2; obtain ⟨c0, c1, c2, c3, d0⟩ := HS.out _ hR; go_simp; all_goals (try with_reducible rfl)))
          | (refine Steps.skip rfl (fun f w' hR hV => ?_) ?_
             · (obtain ⟨h2, _⟩ := hV; replace h2 : f 2 = _ := h2; first | exact want_no (t := 16) rfl (by kernel_rfl) rfl h2 rfl | exact want_undef (t := 16) rfl (by kernel_rfl) rfl h2))
        all_goals first
          | (refine Steps.pure (v := ?_) Keeps.refl rfl (fun f w' hR hV => ⟨?_, ?_⟩) ?_
             rotate_left
             · (obtain ⟨h2, _⟩ := hV; replace h2 : f 2 = _ := h2; exact want_yes (t := 16) rfl (by kernel_rfl) rfl h2)
             · (obtain ⟨h2, _⟩ := hV; replace h2 : f 2 = _ := h2; obtain ⟨c0, c1, c2, c3, d0⟩ := HS.out _ hR; go_simp; all_goals (try with_reducible rfl)))
          | (refine Steps.skip rfl (fun f w' hR hV => ?_) ?_
             · (obtain ⟨h2, _⟩ := hV; replace h2 : f 2 = _ := h2; first | exact want_no (t := 16) rfl (by kernel_rfl) rfl h2 rfl | exact want_undef (t := 16) rfl (by kernel_rfl) rfl h2))
        all_goals first
          | (refine Steps.pure (v := ?_) Keeps.refl rfl (fun f w' hR hV => ⟨?_, ?_⟩) ?_
             rotate_left
             · (obtain ⟨h2, _, _⟩ := hV; replace h2 : f 2 = _ := h2; exact want_yes (t := 16) rfl (by kernel_rfl) rfl h2)
             · (obtain ⟨h2, h4, _⟩ := hV; replace h2 : f 2 = _ := h2; replace h4 : f 4 = _ := h4; obtain ⟨c0, c1, c2, c3, d0⟩ := HS.out _ hR; go_simp; all_goals (try with_reducible rfl)))
          | (refine Steps.skip rfl (fun f w' hR hV => ?_) ?_
             · (obtain ⟨h2, _, _⟩ := hV; replace h2 : f 2 = _ := h2; first | exact want_no (t := 16) rfl (by kernel_rfl) rfl h2 rfl | exact want_undef (t := 16) rfl (by kernel_rfl) rfl h2))
        all_goals first
          | (refine Steps.pure (v := ?_) Keeps.refl rfl (fun f w' hR hV => ⟨?_, ?_⟩) ?_
             rotate_left
             · (obtain ⟨h2, _, _, _⟩ := hV; replace h2 : f 2 = _ := h2; exact want_yes (t := 16) rfl (by kernel_rfl) rfl h2)
             · (obtain ⟨h2, h3, h5, _⟩ := hV; replace h2 : f 2 = _ := h2; replace h3 : f 3 = _ := h3; replace h5 : f 5 = _ := h5; obtain ⟨c0, c1, c2, c3, d0⟩ := HS.out _ hR; go_simp; all_goals (try with_reducible rfl)))
          | (refine Steps.skip rfl (fun f w' hR hV => ?_) ?_
             · (obtain ⟨h2, _, _, _⟩ := hV; replace h2 : f 2 = _ := h2; first | exact want_no (t := 16) rfl (by kernel_rfl) rfl h2 rfl | exact want_undef (t := 16) rfl (by kernel_rfl) rfl h2))
        all_goals first
          | (refine Steps.pure (v := ?_) Keeps.refl rfl (fun f w' hR hV => ⟨?_, ?_⟩) ?_
             rotate_left
             · (obtain ⟨h2, _, _⟩ := hV; replace h2 : f 2 = _ := h2; exact want_yes (t := 16) rfl (by kernel_rfl) rfl h2)
             · (obtain ⟨h2, h6, _⟩ := hV; replace h2 : f 2 = _ := h2; replace h6 : f 6 = _ := h6; obtain ⟨c0, c1, c2, c3, d0⟩ := HS.out _ hR; go_simp; all_goals (try with_reducible rfl)))
          | (refine Steps.skip rfl (fun f w' hR hV => ?_) ?_
             · (obtain ⟨h2, _, _⟩ := hV; replace h2 : f 2 = _ := h2; first | exact want_no (t := 16) rfl (by kernel_rfl) rfl h2 rfl | exact want_undef (t := 16) rfl (by kernel_rfl) rfl h2))
        all_goals first
          | (refine Steps.pure (v := ?_) Keeps.refl rfl (fun f w' hR hV => ⟨?_, ?_⟩) ?_
             rotate_left
             · (obtain ⟨h2, _, _⟩ := hV; replace h2 : f 2 = _ := h2; exact want_yes (t := 16) rfl (by kernel_rfl) rfl h2)
             · (obtain ⟨h2, h7, _⟩ := hV; replace h2 : f 2 = _ := h2; replace h7 : f 7 = _ := h7; obtain ⟨c0, c1, c2, c3, d0⟩ := HS.out _ hR; go_simp; all_goals (try with_reducible rfl)))
          | (refine Steps.skip rfl (fun f w' hR hV => ?_) ?_
             · (obtain ⟨h2, _, _⟩ := hV; replace h2 : f 2 = _ := h2; first | exact want_no (t := 16) rfl (by kernel_rfl) rfl h2 rfl | exact want_undef (t := 16) rfl (by kernel_rfl) rfl h2))
        all_goals first
          | (refine Steps.pure (v := ?_) Keeps.refl rfl (fun f w' hR hV => ⟨?_, ?_⟩) ?_
             rotate_left
             · (obtain ⟨h2, _⟩ := hV; replace h2 : f 2 = _ := h2; exact want_yes (t := 16) rfl (by kernel_rfl) rfl h2)
             · (obtain ⟨h2, _⟩ := hV; replace h2 : f 2 = _ := h2; obtain ⟨c0, c1, c2, c3, d0⟩ := HS.out _ hR; go_simp; all_goals (try with_reducible rfl)))
          | (refine Steps.skip rfl (fun f w' hR hV => ?_) ?_
             · (obtain ⟨h2, _⟩ := hV; replace h2 : f 2 = _ := h2; first | exact want_no (t := 16) rfl (by kernel_rfl) rfl h2 rfl | exact want_undef (t := 16) rfl (by kernel_rfl) rfl h2))
        all_goals first
          | (refine Steps.pure (v := ?_) Keeps.refl rfl (fun f w' hR hV => ⟨?_, ?_⟩) ?_
             rotate_left
             · (obtain ⟨h2, _, _⟩ := hV; replace h2 : f 2 = _ := h2; exact want_yes (t := 16) rfl (by kernel_rfl) rfl h2)
             · (obtain ⟨h2, h9, _⟩ := hV; replace h2 : f 2 = _ := h2; replace h9 : f 9 = _ := h9; obtain ⟨c0, c1, c2, c3, d0⟩ := HS.out _ hR; go_simp; all_goals (try with_reducible rfl)))
          | (refine Steps.skip rfl (fun f w' hR hV => ?_) ?_
             · (obtain ⟨h2, _, _⟩ := hV; replace h2 : f 2 = _ := h2; first | exact want_no (t := 16) rfl (by kernel_rfl) rfl h2 rfl | exact want_undef (t := 16) rfl (by kernel_rfl) rfl h2))
        all_goals first
          | (refine Steps.pure (v := ?_) Keeps.refl rfl (fun f w' hR hV => ⟨?_, ?_⟩) ?_
             rotate_left
             · (obtain ⟨h2, _, _, _⟩ := hV; replace h2 : f 2 = _ := h2; exact want_yes (t := 16) rfl (by kernel_rfl) rfl h2)
             · (obtain ⟨h2, h8, h10, _⟩ := hV; replace h2 : f 2 = _ := h2; replace h8 : f 8 = _ := h8; replace h10 : f 10 = _ := h10; obtain ⟨c0, c1, c2, c3, d0⟩ := HS.out _ hR; go_simp; all_goals (try with_reducible rfl)))
          | (refine Steps.skip rfl (fun f w' hR hV => ?_) ?_
             · (obtain ⟨h2, _, _, _⟩ := hV; replace h2 : f 2 = _ := h2; first | exact want_no (t := 16) rfl (by kernel_rfl) rfl h2 rfl | exact want_undef (t := 16) rfl (by kernel_rfl) rfl h2))
        all_goals (
          refine Steps.pure (v := ?_) Keeps.refl rfl (fun f w' hR hV => ⟨?_, ?_⟩) ?_
          rotate_left
          · (rfl)
          · (obtain ⟨h2, h11, _⟩ := hV; replace h2 : f 2 = _ := h2; replace h11 : f 11 = _ := h11; obtain ⟨c0, c1, c2, c3, d0⟩ := HS.out _ hR; go_simp; all_goals (try with_reducible rfl)))
        all_goals (
          refine Steps.pure (v := ?_) Keeps.refl rfl (fun f w' hR hV => ⟨?_, ?_⟩) ?_
          rotate_left
          · (rfl)
          · (obtain ⟨h12, _⟩ := hV; replace h12 : f 12 = _ := h12; obtain ⟨c0, c1, c2, c3, d0⟩ := HS.out _ hR; go_simp; all_goals (try with_reducible rfl)))
        all_goals first
          | (refine Steps.pure (v := ?_) Keeps.refl rfl (fun f w' hR hV => ⟨?_, ?_⟩) ?_
             rotate_left
             · (obtain ⟨h13, _⟩ := hV; replace h13 : f 13 = _ := h13; exact want_yes (t := 27) rfl (by kernel_rfl) rfl h13)
             · (obtain ⟨h13, _⟩ := hV; replace h13 : f 13 = _ := h13; obtain ⟨c0, c1, c2, c3, d0⟩ := HS.out _ hR; go_simp; all_goals (try with_reducible rfl)))
          | (refine Steps.skip rfl (fun f w' hR hV => ?_) ?_
             · (obtain ⟨h13, _⟩ := hV; replace h13 : f 13 = _ := h13; first | exact want_no (t := 27) rfl (by kernel_rfl) rfl h13 rfl | exact want_undef (t := 27) rfl (by kernel_rfl) rfl h13))
        all_goals first
          | (refine Steps.pure (v := ?_) Keeps.refl rfl (fun f w' hR hV => ⟨?_, ?_⟩) ?_
             rotate_left
             · (obtain ⟨h13, _⟩ := hV; replace h13 : f 13 = _ := h13; exact want_yes (t := 27) rfl (by kernel_rfl) rfl h13)
             · (obtain ⟨h13, _⟩ := hV; replace h13 : f 13 = _ := h13; obtain ⟨c0, c1, c2, c3, d0⟩ := HS.out _ hR; go_simp; all_goals (try with_reducible rfl)))
          | (refine Steps.skip rfl (fun f w' hR hV => ?_) ?_
             · (obtain ⟨h13, _⟩ := hV; replace h13 : f 13 = _ := h13; first | exact want_no (t := 27) rfl (by kernel_rfl) rfl h13 rfl | exact want_undef (t := 27) rfl (by kernel_rfl) rfl h13))
        all_goals first
          | (refine Steps.pure (v := ?_) Keeps.refl rfl (fun f w' hR hV => ⟨?_, ?_⟩) ?_
             rotate_left
             · (obtain ⟨h13, _⟩ := hV; replace h13 : f 13 = _ := h13; exact want_yes (t := 27) rfl (by kernel_rfl) rfl h13)
             · (obtain ⟨h13, _⟩ := hV; replace h13 : f 13 = _ := h13; obtain ⟨c0, c1, c2, c3, d0⟩ := HS.out _ hR; go_simp; all_goals (try with_reducible rfl)))
          | (refine Steps.skip rfl (fun f w' hR hV => ?_) ?_
             · (obtain ⟨h13, _⟩ := hV; replace h13 : f 13 = _ := h13; first | exact want_no (t := 27) rfl (by kernel_rfl) rfl h13 rfl | exact want_undef (t := 27) rfl (by kernel_rfl) rfl h13))
        all_goals first
          | (refine Steps.call (fun _ v => v = .bool pr) rfl (fun _ _ _ _ h => h) (fun f w' hR hV => ⟨?_, ?_⟩) ?_
             · (obtain ⟨h13, _, _, _, _⟩ := hV; replace h13 : f 13 = _ := h13; exact want_yes (t := 27) rfl (by kernel_rfl) rfl h13)
             · (obtain ⟨h13, h14, h15, h16, _⟩ := hV; replace h13 : f 13 = _ := h13; replace h14 : f 14 = _ := h14; replace h15 : f 15 = _ := h15; replace h16 : f 16 = _ := h16; obtain ⟨c0, c1, c2, c3, d0⟩ := HS.out _ hR; go_simp; go_at_call 144; refine (HP.out _ (HH.out.keeps ((HW.out.alloc _).drew.trans hR))).mono ?_; rintro e w2 ⟨rfl, hk2⟩; exact StepPost.of _ rfl rfl hk2))
          | (refine Steps.skip rfl (fun f w' hR hV => ?_) ?_
             · (obtain ⟨h13, _, _, _, _⟩ := hV; replace h13 : f 13 = _ := h13; first | exact want_no (t := 27) rfl (by kernel_rfl) rfl h13 rfl | exact want_undef (t := 27) rfl (by kernel_rfl) rfl h13))
        cases pr
        all_goals first
          | (refine Steps.pure (v := ?_) Keeps.refl rfl (fun f w' hR hV => ⟨?_, ?_⟩) ?_
             rotate_left
             · (obtain ⟨h13, _, _⟩ := hV; replace h13 : f 13 = _ := h13; exact want_yes (t := 27) rfl (by kernel_rfl) rfl h13)
             · (obtain ⟨h13, h17, _⟩ := hV; replace h13 : f 13 = _ := h13; replace h17 : f 17 = _ := h17; obtain ⟨c0, c1, c2, c3, d0⟩ := HS.out _ hR; go_simp; all_goals (try with_reducible rfl)))
          | (refine Steps.skip rfl (fun f w' hR hV => ?_) ?_
             · (obtain ⟨h13, _, _⟩ := hV; replace h13 : f 13 = _ := h13; first | exact want_no (t := 27) rfl (by kernel_rfl) rfl h13 rfl | exact want_undef (t := 27) rfl (by kernel_rfl) rfl h13))
        all_goals (
          refine Steps.pure (v := ?_) Keeps.refl rfl (fun f w' hR hV => ⟨?_, ?_⟩) ?_
          rotate_left
          · (rfl)
          · (obtain ⟨h13, h18, _⟩ := hV; replace h13 : f 13 = _ := h13; replace h18 : f 18 = _ := h18; obtain ⟨c0, c1, c2, c3, d0⟩ := HS.out _ hR; go_simp; all_goals (try with_reducible rfl)))
        all_goals (refine Steps.done [19] (by kernel_rfl) rfl (fun f wq hR hV => ?_); obtain ⟨h19, _⟩ := hV; replace h19 : f 19 = _ := h19; simp only [h19])
        all_goals (have HR := Lib.hid ((HW.out.alloc (.cells #[.int .i64 l[0].code, .int .i64 l[0].kind, .int .i64 l[0].basis, .int .i64 l[0].parent] 68)).drew.trans hR); clear hR)
        · have HB := Lib.hid (validPB_bad hlt (HOK.out.trans (by rfl)))
          go_wp2
          go_ret
          rw [HB.out]
          exact ⟨rfl, HR.out⟩
        · go_wp2
          go_roundw
          case rel => exact ⟨0 + 1, by omega, by go_num, Lib.hid (fun j hj => by
            rcases Nat.lt_succ_iff_lt_or_eq.1 hj with h | rfl
            · exact HN.out j h
            · exact HOK.out.trans (by rfl)), HR⟩
          case measure => simp [intOf]; omega
      | succ m =>
        rw [riseB_succ hlt] at hok
        have hm2 : m < l.length := by omega
        have hix2 := Sl.at HL Tryz.underlying24 Tryz.sizeOf68 m hm2
        have d0 := HL.cell Acc.len m hm2 0 _ rfl
        simp only [Nat.add_zero] at d0
        have hbd := World.block_lt_of_cell? _ _ d0
        rw [show (((m + 1 : Nat)) : Int) = (m : Int) + 1 from by omega] at hix
        have e2 : decide ((0 : Int) < (m : Int) + 1) = true := decide_eq_true (by omega)
        have hw1 : IntKind.i64.wrap (m : Int) = (m : Int) := IntWalk.i64_in _ (by omega)
        have HS : Hid (∀ w', Keeps (wr.alloc (.cells #[.int .i64 l[m + 1].code, .int .i64 l[m + 1].kind, .int .i64 l[m + 1].basis, .int .i64 l[m + 1].parent] 68)).drew w' → w'.cell? ⟨wr.heap.size, 0, none⟩ = some (.int .i64 l[m + 1].code) ∧ w'.cell? ⟨wr.heap.size, 1, none⟩ = some (.int .i64 l[m + 1].kind) ∧ w'.cell? ⟨wr.heap.size, 2, none⟩ = some (.int .i64 l[m + 1].basis) ∧ w'.cell? ⟨wr.heap.size, 3, none⟩ = some (.int .i64 l[m + 1].parent) ∧ w'.cell? ⟨b, o + m * 4, none⟩ = some (.int .i64 l[m].code)) := Lib.hid (fun w' h => ⟨h.cell (p := ⟨wr.heap.size, 0, none⟩) (by go_simp), h.cell (p := ⟨wr.heap.size, 1, none⟩) (by go_simp), h.cell (p := ⟨wr.heap.size, 2, none⟩) (by go_simp), h.cell (p := ⟨wr.heap.size, 3, none⟩) (by go_simp), ((((Keeps.refl wr).alloc _).drew).trans h).cell d0⟩)
        clear HL
        by_cases hr : l[m].code < l[m + 1].code
        · have e1 : decide (l[m + 1].code ≤ l[m].code) = false := decide_eq_false (by omega)
          rw [decide_eq_true hr, Bool.true_and] at hok
          have HOK := Lib.hid hok
          clear hok hr
          go_wp2_with fail
          clear c0 c1 c2 c3 d0
          refine wp_region_steps (A := ?_) Keeps [some 14, some 15, some 16, some 17, some 18, some 19, some 20, some 21, some 22, some 23, some 24, some 25, some 26, some 27, some 28, some 29, some 30, some 31, some 32, some 33] [[], [0], [1], [2], [2], [2, 4], [2, 3, 5], [2, 6], [2, 7], [2], [2, 9], [2, 8, 10], [2, 11], [12], [13], [13], [13], [13, 14, 15, 16], [13, 17], [13, 18]] 20 (by kernel_rfl) (by kernel_rfl) (by kernel_rfl) (by kernel_rfl) (by kernel_rfl) (by kernel_rfl) Keeps.refl (fun _ _ _ => Keeps.trans) ?_ ?_
          rotate_left
          · intro f; simp only [putL, Act.put, List.setIfInBounds_toArray, List.set_cons_zero, List.set_cons_succ, Nat.zero_add, Nat.reduceAdd]; exact rfl
          refine Steps.pure (v := ?_) Keeps.refl rfl (fun f w' hR hV => ⟨?_, ?_⟩) ?_
          rotate_left
          · (rfl)
          · (clear hV; obtain ⟨c0, c1, c2, c3, d0⟩ := HS.out _ hR; go_simp; all_goals (try with_reducible rfl))
          refine Steps.pure (v := ?_) Keeps.refl rfl (fun f w' hR hV => ⟨?_, ?_⟩) ?_
          rotate_left
          · (rfl)
          · (obtain ⟨h0, _⟩ := hV; replace h0 : f 0 = _ := h0; obtain ⟨c0, c1, c2, c3, d0⟩ := HS.out _ hR; go_simp; all_goals (try with_reducible rfl))
          refine Steps.pure (v := ?_) Keeps.refl rfl (fun f w' hR hV => ⟨?_, ?_⟩) ?_
          rotate_left
          · (rfl)
          · (obtain ⟨h1, _⟩ := hV; replace h1 : f 1 = _ := h1; obtain ⟨c0, c1, c2, c3, d0⟩ := HS.out _ hR; go_simp; all_goals (try with_reducible rfl))
          all_goals first
            | (refine Steps.pure (v := ?_) Keeps.refl rfl (fun f w' hR hV => ⟨?_, ?_⟩) ?_
               rotate_left
               · (obtain ⟨h2, _⟩ := hV; replace h2 : f 2 = _ := h2; exact want_yes (t := 16) rfl (by kernel_rfl) rfl h2)
               · (obtain ⟨h2, _⟩ := hV; replace h2 : f 2 = _ := h2; obtain ⟨c0, c1, c2, c3, d0⟩ := HS.out _ hR; go_simp; all_goals (try with_reducible rfl)))
            | (refine Steps.skip rfl (fun f w' hR hV => ?_) ?_
               · (obtain ⟨h2, _⟩ := hV; replace h2 : f 2 = _ := h2; first | exact want_no (t := 16) rfl (by kernel_rfl) rfl h2 rfl | exact want_undef (t := 16) rfl (by kernel_rfl) rfl h2))
          all_goals first
            | (refine Steps.pure (v := ?_) Keeps.refl rfl (fun f w' hR hV => ⟨?_, ?_⟩) ?_
               rotate_left
               · (obtain ⟨h2, _⟩ := hV; replace h2 : f 2 = _ := h2; exact want_yes (t := 16) rfl (by kernel_rfl) rfl h2)
               · (obtain ⟨h2, _⟩ := hV; replace h2 : f 2 = _ := h2; obtain ⟨c0, c1, c2, c3, d0⟩ := HS.out _ hR; go_simp; all_goals (try with_reducible rfl)))
            | (refine Steps.skip rfl (fun f w' hR hV => ?_) ?_
               · (obtain ⟨h2, _⟩ := hV; replace h2 : f 2 = _ := h2; first | exact want_no (t := 16) rfl (by kernel_rfl) rfl h2 rfl | exact want_undef (t := 16) rfl (by kernel_rfl) rfl h2))
          all_goals first
            | (refine Steps.pure (v := ?_) Keeps.refl rfl (fun f w' hR hV => ⟨?_, ?_⟩) ?_
               rotate_left
               · (obtain ⟨h2, _, _⟩ := hV; replace h2 : f 2 = _ := h2; exact want_yes (t := 16) rfl (by kernel_rfl) rfl h2)
               · (obtain ⟨h2, h4, _⟩ := hV; replace h2 : f 2 = _ := h2; replace h4 : f 4 = _ := h4; obtain ⟨c0, c1, c2, c3, d0⟩ := HS.out _ hR; go_simp; all_goals (try with_reducible rfl)))
            | (refine Steps.skip rfl (fun f w' hR hV => ?_) ?_
               · (obtain ⟨h2, _, _⟩ := hV; replace h2 : f 2 = _ := h2; first | exact want_no (t := 16) rfl (by kernel_rfl) rfl h2 rfl | exact want_undef (t := 16) rfl (by kernel_rfl) rfl h2))
          all_goals first
            | (refine Steps.pure (v := ?_) Keeps.refl rfl (fun f w' hR hV => ⟨?_, ?_⟩) ?_
               rotate_left
               · (obtain ⟨h2, _, _, _⟩ := hV; replace h2 : f 2 = _ := h2; exact want_yes (t := 16) rfl (by kernel_rfl) rfl h2)
               · (obtain ⟨h2, h3, h5, _⟩ := hV; replace h2 : f 2 = _ := h2; replace h3 : f 3 = _ := h3; replace h5 : f 5 = _ := h5; obtain ⟨c0, c1, c2, c3, d0⟩ := HS.out _ hR; go_simp; all_goals (try with_reducible rfl)))
            | (refine Steps.skip rfl (fun f w' hR hV => ?_) ?_
               · (obtain ⟨h2, _, _, _⟩ := hV; replace h2 : f 2 = _ := h2; first | exact want_no (t := 16) rfl (by kernel_rfl) rfl h2 rfl | exact want_undef (t := 16) rfl (by kernel_rfl) rfl h2))
          all_goals first
            | (refine Steps.pure (v := ?_) Keeps.refl rfl (fun f w' hR hV => ⟨?_, ?_⟩) ?_
               rotate_left
               · (obtain ⟨h2, _, _⟩ := hV; replace h2 : f 2 = _ := h2; exact want_yes (t := 16) rfl (by kernel_rfl) rfl h2)
               · (obtain ⟨h2, h6, _⟩ := hV; replace h2 : f 2 = _ := h2; replace h6 : f 6 = _ := h6; obtain ⟨c0, c1, c2, c3, d0⟩ := HS.out _ hR; go_simp; all_goals (try with_reducible rfl)))
            | (refine Steps.skip rfl (fun f w' hR hV => ?_) ?_
               · (obtain ⟨h2, _, _⟩ := hV; replace h2 : f 2 = _ := h2; first | exact want_no (t := 16) rfl (by kernel_rfl) rfl h2 rfl | exact want_undef (t := 16) rfl (by kernel_rfl) rfl h2))
          all_goals first
            | (refine Steps.pure (v := ?_) Keeps.refl rfl (fun f w' hR hV => ⟨?_, ?_⟩) ?_
               rotate_left
               · (obtain ⟨h2, _, _⟩ := hV; replace h2 : f 2 = _ := h2; exact want_yes (t := 16) rfl (by kernel_rfl) rfl h2)
               · (obtain ⟨h2, h7, _⟩ := hV; replace h2 : f 2 = _ := h2; replace h7 : f 7 = _ := h7; obtain ⟨c0, c1, c2, c3, d0⟩ := HS.out _ hR; go_simp; all_goals (try with_reducible rfl)))
            | (refine Steps.skip rfl (fun f w' hR hV => ?_) ?_
               · (obtain ⟨h2, _, _⟩ := hV; replace h2 : f 2 = _ := h2; first | exact want_no (t := 16) rfl (by kernel_rfl) rfl h2 rfl | exact want_undef (t := 16) rfl (by kernel_rfl) rfl h2))
          all_goals first
            | (refine Steps.pure (v := ?_) Keeps.refl rfl (fun f w' hR hV => ⟨?_, ?_⟩) ?_
               rotate_left
               · (obtain ⟨h2, _⟩ := hV; replace h2 : f 2 = _ := h2; exact want_yes (t := 16) rfl (by kernel_rfl) rfl h2)
               · (obtain ⟨h2, _⟩ := hV; replace h2 : f 2 = _ := h2; obtain ⟨c0, c1, c2, c3, d0⟩ := HS.out _ hR; go_simp; all_goals (try with_reducible rfl)))
            | (refine Steps.skip rfl (fun f w' hR hV => ?_) ?_
               · (obtain ⟨h2, _⟩ := hV; replace h2 : f 2 = _ := h2; first | exact want_no (t := 16) rfl (by kernel_rfl) rfl h2 rfl | exact want_undef (t := 16) rfl (by kernel_rfl) rfl h2))
          all_goals first
            | (refine Steps.pure (v := ?_) Keeps.refl rfl (fun f w' hR hV => ⟨?_, ?_⟩) ?_
               rotate_left
               · (obtain ⟨h2, _, _⟩ := hV; replace h2 : f 2 = _ := h2; exact want_yes (t := 16) rfl (by kernel_rfl) rfl h2)
               · (obtain ⟨h2, h9, _⟩ := hV; replace h2 : f 2 = _ := h2; replace h9 : f 9 = _ := h9; obtain ⟨c0, c1, c2, c3, d0⟩ := HS.out _ hR; go_simp; all_goals (try with_reducible rfl)))
            | (refine Steps.skip rfl (fun f w' hR hV => ?_) ?_
               · (obtain ⟨h2, _, _⟩ := hV; replace h2 : f 2 = _ := h2; first | exact want_no (t := 16) rfl (by kernel_rfl) rfl h2 rfl | exact want_undef (t := 16) rfl (by kernel_rfl) rfl h2))
          all_goals first
            | (refine Steps.pure (v := ?_) Keeps.refl rfl (fun f w' hR hV => ⟨?_, ?_⟩) ?_
               rotate_left
               · (obtain ⟨h2, _, _, _⟩ := hV; replace h2 : f 2 = _ := h2; exact want_yes (t := 16) rfl (by kernel_rfl) rfl h2)
               · (obtain ⟨h2, h8, h10, _⟩ := hV; replace h2 : f 2 = _ := h2; replace h8 : f 8 = _ := h8; replace h10 : f 10 = _ := h10; obtain ⟨c0, c1, c2, c3, d0⟩ := HS.out _ hR; go_simp; all_goals (try with_reducible rfl)))
            | (refine Steps.skip rfl (fun f w' hR hV => ?_) ?_
               · (obtain ⟨h2, _, _, _⟩ := hV; replace h2 : f 2 = _ := h2; first | exact want_no (t := 16) rfl (by kernel_rfl) rfl h2 rfl | exact want_undef (t := 16) rfl (by kernel_rfl) rfl h2))
          all_goals (
            refine Steps.pure (v := ?_) Keeps.refl rfl (fun f w' hR hV => ⟨?_, ?_⟩) ?_
            rotate_left
            · (rfl)
            · (obtain ⟨h2, h11, _⟩ := hV; replace h2 : f 2 = _ := h2; replace h11 : f 11 = _ := h11; obtain ⟨c0, c1, c2, c3, d0⟩ := HS.out _ hR; go_simp; all_goals (try with_reducible rfl)))
          all_goals (
            refine Steps.pure (v := ?_) Keeps.refl rfl (fun f w' hR hV => ⟨?_, ?_⟩) ?_
            rotate_left
            · (rfl)
            · (obtain ⟨h12, _⟩ := hV; replace h12 : f 12 = _ := h12; obtain ⟨c0, c1, c2, c3, d0⟩ := HS.out _ hR; go_simp; all_goals (try with_reducible rfl)))
          all_goals first
            | (refine Steps.pure (v := ?_) Keeps.refl rfl (fun f w' hR hV => ⟨?_, ?_⟩) ?_
               rotate_left
               · (obtain ⟨h13, _⟩ := hV; replace h13 : f 13 = _ := h13; exact want_yes (t := 27) rfl (by kernel_rfl) rfl h13)
               · (obtain ⟨h13, _⟩ := hV; replace h13 : f 13 = _ := h13; obtain ⟨c0, c1, c2, c3, d0⟩ := HS.out _ hR; go_simp; all_goals (try with_reducible rfl)))
            | (refine Steps.skip rfl (fun f w' hR hV => ?_) ?_
               · (obtain ⟨h13, _⟩ := hV; replace h13 : f 13 = _ := h13; first | exact want_no (t := 27) rfl (by kernel_rfl) rfl h13 rfl | exact want_undef (t := 27) rfl (by kernel_rfl) rfl h13))
          all_goals first
            | (refine Steps.pure (v := ?_) Keeps.refl rfl (fun f w' hR hV => ⟨?_, ?_⟩) ?_
               rotate_left
               · (obtain ⟨h13, _⟩ := hV; replace h13 : f 13 = _ := h13; exact want_yes (t := 27) rfl (by kernel_rfl) rfl h13)
               · (obtain ⟨h13, _⟩ := hV; replace h13 : f 13 = _ := h13; obtain ⟨c0, c1, c2, c3, d0⟩ := HS.out _ hR; go_simp; all_goals (try with_reducible rfl)))
            | (refine Steps.skip rfl (fun f w' hR hV => ?_) ?_
               · (obtain ⟨h13, _⟩ := hV; replace h13 : f 13 = _ := h13; first | exact want_no (t := 27) rfl (by kernel_rfl) rfl h13 rfl | exact want_undef (t := 27) rfl (by kernel_rfl) rfl h13))
          all_goals first
            | (refine Steps.pure (v := ?_) Keeps.refl rfl (fun f w' hR hV => ⟨?_, ?_⟩) ?_
               rotate_left
               · (obtain ⟨h13, _⟩ := hV; replace h13 : f 13 = _ := h13; exact want_yes (t := 27) rfl (by kernel_rfl) rfl h13)
               · (obtain ⟨h13, _⟩ := hV; replace h13 : f 13 = _ := h13; obtain ⟨c0, c1, c2, c3, d0⟩ := HS.out _ hR; go_simp; all_goals (try with_reducible rfl)))
            | (refine Steps.skip rfl (fun f w' hR hV => ?_) ?_
               · (obtain ⟨h13, _⟩ := hV; replace h13 : f 13 = _ := h13; first | exact want_no (t := 27) rfl (by kernel_rfl) rfl h13 rfl | exact want_undef (t := 27) rfl (by kernel_rfl) rfl h13))
          all_goals first
            | (refine Steps.call (fun _ v => v = .bool pr) rfl (fun _ _ _ _ h => h) (fun f w' hR hV => ⟨?_, ?_⟩) ?_
               · (obtain ⟨h13, _, _, _, _⟩ := hV; replace h13 : f 13 = _ := h13; exact want_yes (t := 27) rfl (by kernel_rfl) rfl h13)
               · (obtain ⟨h13, h14, h15, h16, _⟩ := hV; replace h13 : f 13 = _ := h13; replace h14 : f 14 = _ := h14; replace h15 : f 15 = _ := h15; replace h16 : f 16 = _ := h16; obtain ⟨c0, c1, c2, c3, d0⟩ := HS.out _ hR; go_simp; go_at_call 144; refine (HP.out _ (HH.out.keeps ((HW.out.alloc _).drew.trans hR))).mono ?_; rintro e w2 ⟨rfl, hk2⟩; exact StepPost.of _ rfl rfl hk2))
            | (refine Steps.skip rfl (fun f w' hR hV => ?_) ?_
               · (obtain ⟨h13, _, _, _, _⟩ := hV; replace h13 : f 13 = _ := h13; first | exact want_no (t := 27) rfl (by kernel_rfl) rfl h13 rfl | exact want_undef (t := 27) rfl (by kernel_rfl) rfl h13))
          cases pr
          all_goals first
            | (refine Steps.pure (v := ?_) Keeps.refl rfl (fun f w' hR hV => ⟨?_, ?_⟩) ?_
               rotate_left
               · (obtain ⟨h13, _, _⟩ := hV; replace h13 : f 13 = _ := h13; exact want_yes (t := 27) rfl (by kernel_rfl) rfl h13)
               · (obtain ⟨h13, h17, _⟩ := hV; replace h13 : f 13 = _ := h13; replace h17 : f 17 = _ := h17; obtain ⟨c0, c1, c2, c3, d0⟩ := HS.out _ hR; go_simp; all_goals (try with_reducible rfl)))
            | (refine Steps.skip rfl (fun f w' hR hV => ?_) ?_
               · (obtain ⟨h13, _, _⟩ := hV; replace h13 : f 13 = _ := h13; first | exact want_no (t := 27) rfl (by kernel_rfl) rfl h13 rfl | exact want_undef (t := 27) rfl (by kernel_rfl) rfl h13))
          all_goals (
            refine Steps.pure (v := ?_) Keeps.refl rfl (fun f w' hR hV => ⟨?_, ?_⟩) ?_
            rotate_left
            · (rfl)
            · (obtain ⟨h13, h18, _⟩ := hV; replace h13 : f 13 = _ := h13; replace h18 : f 18 = _ := h18; obtain ⟨c0, c1, c2, c3, d0⟩ := HS.out _ hR; go_simp; all_goals (try with_reducible rfl)))
          all_goals (refine Steps.done [19] (by kernel_rfl) rfl (fun f wq hR hV => ?_); obtain ⟨h19, _⟩ := hV; replace h19 : f 19 = _ := h19; simp only [h19])
          all_goals (have HR := Lib.hid ((HW.out.alloc (.cells #[.int .i64 l[(m+1)].code, .int .i64 l[(m+1)].kind, .int .i64 l[(m+1)].basis, .int .i64 l[(m+1)].parent] 68)).drew.trans hR); clear hR)
          · have HB := Lib.hid (validPB_bad hlt (HOK.out.trans (by rfl)))
            go_wp2
            go_ret
            rw [HB.out]
            exact ⟨rfl, HR.out⟩
          · go_wp2
            go_roundw
            case rel => exact ⟨(m+1) + 1, by omega, by go_num, Lib.hid (fun j hj => by
              rcases Nat.lt_succ_iff_lt_or_eq.1 hj with h | rfl
              · exact HN.out j h
              · exact HOK.out.trans (by rfl)), HR⟩
            case measure => simp [intOf]; omega
        · have e1 : decide (l[m + 1].code ≤ l[m].code) = true := decide_eq_true (by omega)
          rw [decide_eq_false hr, Bool.false_and] at hok
          have HB := Lib.hid (validPB_bad hlt hok)
          clear hok hr
          go_wp2_with fail
          clear c0 c1 c2 c3 d0
          refine wp_region_steps (A := ?_) Keeps [some 14, some 15, some 16, some 17, some 18, some 19, some 20, some 21, some 22, some 23, some 24, some 25, some 26, some 27, some 28, some 29, some 30, some 31, some 32, some 33] [[], [0], [1], [2], [2], [2, 4], [2, 3, 5], [2, 6], [2, 7], [2], [2, 9], [2, 8, 10], [2, 11], [12], [13], [13], [13], [13, 14, 15, 16], [13, 17], [13, 18]] 20 (by kernel_rfl) (by kernel_rfl) (by kernel_rfl) (by kernel_rfl) (by kernel_rfl) (by kernel_rfl) Keeps.refl (fun _ _ _ => Keeps.trans) ?_ ?_
          rotate_left
          · intro f; simp only [putL, Act.put, List.setIfInBounds_toArray, List.set_cons_zero, List.set_cons_succ, Nat.zero_add, Nat.reduceAdd]; exact rfl
          refine Steps.pure (v := ?_) Keeps.refl rfl (fun f w' hR hV => ⟨?_, ?_⟩) ?_
          rotate_left
          · (rfl)
          · (clear hV; obtain ⟨c0, c1, c2, c3, d0⟩ := HS.out _ hR; go_simp; all_goals (try with_reducible rfl))
          refine Steps.pure (v := ?_) Keeps.refl rfl (fun f w' hR hV => ⟨?_, ?_⟩) ?_
          rotate_left
          · (rfl)
          · (obtain ⟨h0, _⟩ := hV; replace h0 : f 0 = _ := h0; obtain ⟨c0, c1, c2, c3, d0⟩ := HS.out _ hR; go_simp; all_goals (try with_reducible rfl))
          refine Steps.pure (v := ?_) Keeps.refl rfl (fun f w' hR hV => ⟨?_, ?_⟩) ?_
          rotate_left
          · (rfl)
          · (obtain ⟨h1, _⟩ := hV; replace h1 : f 1 = _ := h1; obtain ⟨c0, c1, c2, c3, d0⟩ := HS.out _ hR; go_simp; all_goals (try with_reducible rfl))
          all_goals first
            | (refine Steps.pure (v := ?_) Keeps.refl rfl (fun f w' hR hV => ⟨?_, ?_⟩) ?_
               rotate_left
               · (obtain ⟨h2, _⟩ := hV; replace h2 : f 2 = _ := h2; exact want_yes (t := 16) rfl (by kernel_rfl) rfl h2)
               · (obtain ⟨h2, _⟩ := hV; replace h2 : f 2 = _ := h2; obtain ⟨c0, c1, c2, c3, d0⟩ := HS.out _ hR; go_simp; all_goals (try with_reducible rfl)))
            | (refine Steps.skip rfl (fun f w' hR hV => ?_) ?_
               · (obtain ⟨h2, _⟩ := hV; replace h2 : f 2 = _ := h2; first | exact want_no (t := 16) rfl (by kernel_rfl) rfl h2 rfl | exact want_undef (t := 16) rfl (by kernel_rfl) rfl h2))
          all_goals first
            | (refine Steps.pure (v := ?_) Keeps.refl rfl (fun f w' hR hV => ⟨?_, ?_⟩) ?_
               rotate_left
               · (obtain ⟨h2, _⟩ := hV; replace h2 : f 2 = _ := h2; exact want_yes (t := 16) rfl (by kernel_rfl) rfl h2)
               · (obtain ⟨h2, _⟩ := hV; replace h2 : f 2 = _ := h2; obtain ⟨c0, c1, c2, c3, d0⟩ := HS.out _ hR; go_simp; all_goals (try with_reducible rfl)))
            | (refine Steps.skip rfl (fun f w' hR hV => ?_) ?_
               · (obtain ⟨h2, _⟩ := hV; replace h2 : f 2 = _ := h2; first | exact want_no (t := 16) rfl (by kernel_rfl) rfl h2 rfl | exact want_undef (t := 16) rfl (by kernel_rfl) rfl h2))
          all_goals first
            | (refine Steps.pure (v := ?_) Keeps.refl rfl (fun f w' hR hV => ⟨?_, ?_⟩) ?_
               rotate_left
               · (obtain ⟨h2, _, _⟩ := hV; replace h2 : f 2 = _ := h2; exact want_yes (t := 16) rfl (by kernel_rfl) rfl h2)
               · (obtain ⟨h2, h4, _⟩ := hV; replace h2 : f 2 = _ := h2; replace h4 : f 4 = _ := h4; obtain ⟨c0, c1, c2, c3, d0⟩ := HS.out _ hR; go_simp; all_goals (try with_reducible rfl)))
            | (refine Steps.skip rfl (fun f w' hR hV => ?_) ?_
               · (obtain ⟨h2, _, _⟩ := hV; replace h2 : f 2 = _ := h2; first | exact want_no (t := 16) rfl (by kernel_rfl) rfl h2 rfl | exact want_undef (t := 16) rfl (by kernel_rfl) rfl h2))
          all_goals first
            | (refine Steps.pure (v := ?_) Keeps.refl rfl (fun f w' hR hV => ⟨?_, ?_⟩) ?_
               rotate_left
               · (obtain ⟨h2, _, _, _⟩ := hV; replace h2 : f 2 = _ := h2; exact want_yes (t := 16) rfl (by kernel_rfl) rfl h2)
               · (obtain ⟨h2, h3, h5, _⟩ := hV; replace h2 : f 2 = _ := h2; replace h3 : f 3 = _ := h3; replace h5 : f 5 = _ := h5; obtain ⟨c0, c1, c2, c3, d0⟩ := HS.out _ hR; go_simp; all_goals (try with_reducible rfl)))
            | (refine Steps.skip rfl (fun f w' hR hV => ?_) ?_
               · (obtain ⟨h2, _, _, _⟩ := hV; replace h2 : f 2 = _ := h2; first | exact want_no (t := 16) rfl (by kernel_rfl) rfl h2 rfl | exact want_undef (t := 16) rfl (by kernel_rfl) rfl h2))
          all_goals first
            | (refine Steps.pure (v := ?_) Keeps.refl rfl (fun f w' hR hV => ⟨?_, ?_⟩) ?_
               rotate_left
               · (obtain ⟨h2, _, _⟩ := hV; replace h2 : f 2 = _ := h2; exact want_yes (t := 16) rfl (by kernel_rfl) rfl h2)
               · (obtain ⟨h2, h6, _⟩ := hV; replace h2 : f 2 = _ := h2; replace h6 : f 6 = _ := h6; obtain ⟨c0, c1, c2, c3, d0⟩ := HS.out _ hR; go_simp; all_goals (try with_reducible rfl)))
            | (refine Steps.skip rfl (fun f w' hR hV => ?_) ?_
               · (obtain ⟨h2, _, _⟩ := hV; replace h2 : f 2 = _ := h2; first | exact want_no (t := 16) rfl (by kernel_rfl) rfl h2 rfl | exact want_undef (t := 16) rfl (by kernel_rfl) rfl h2))
          all_goals first
            | (refine Steps.pure (v := ?_) Keeps.refl rfl (fun f w' hR hV => ⟨?_, ?_⟩) ?_
               rotate_left
               · (obtain ⟨h2, _, _⟩ := hV; replace h2 : f 2 = _ := h2; exact want_yes (t := 16) rfl (by kernel_rfl) rfl h2)
               · (obtain ⟨h2, h7, _⟩ := hV; replace h2 : f 2 = _ := h2; replace h7 : f 7 = _ := h7; obtain ⟨c0, c1, c2, c3, d0⟩ := HS.out _ hR; go_simp; all_goals (try with_reducible rfl)))
            | (refine Steps.skip rfl (fun f w' hR hV => ?_) ?_
               · (obtain ⟨h2, _, _⟩ := hV; replace h2 : f 2 = _ := h2; first | exact want_no (t := 16) rfl (by kernel_rfl) rfl h2 rfl | exact want_undef (t := 16) rfl (by kernel_rfl) rfl h2))
          all_goals first
            | (refine Steps.pure (v := ?_) Keeps.refl rfl (fun f w' hR hV => ⟨?_, ?_⟩) ?_
               rotate_left
               · (obtain ⟨h2, _⟩ := hV; replace h2 : f 2 = _ := h2; exact want_yes (t := 16) rfl (by kernel_rfl) rfl h2)
               · (obtain ⟨h2, _⟩ := hV; replace h2 : f 2 = _ := h2; obtain ⟨c0, c1, c2, c3, d0⟩ := HS.out _ hR; go_simp; all_goals (try with_reducible rfl)))
            | (refine Steps.skip rfl (fun f w' hR hV => ?_) ?_
               · (obtain ⟨h2, _⟩ := hV; replace h2 : f 2 = _ := h2; first | exact want_no (t := 16) rfl (by kernel_rfl) rfl h2 rfl | exact want_undef (t := 16) rfl (by kernel_rfl) rfl h2))
          all_goals first
            | (refine Steps.pure (v := ?_) Keeps.refl rfl (fun f w' hR hV => ⟨?_, ?_⟩) ?_
               rotate_left
               · (obtain ⟨h2, _, _⟩ := hV; replace h2 : f 2 = _ := h2; exact want_yes (t := 16) rfl (by kernel_rfl) rfl h2)
               · (obtain ⟨h2, h9, _⟩ := hV; replace h2 : f 2 = _ := h2; replace h9 : f 9 = _ := h9; obtain ⟨c0, c1, c2, c3, d0⟩ := HS.out _ hR; go_simp; all_goals (try with_reducible rfl)))
            | (refine Steps.skip rfl (fun f w' hR hV => ?_) ?_
               · (obtain ⟨h2, _, _⟩ := hV; replace h2 : f 2 = _ := h2; first | exact want_no (t := 16) rfl (by kernel_rfl) rfl h2 rfl | exact want_undef (t := 16) rfl (by kernel_rfl) rfl h2))
          all_goals first
            | (refine Steps.pure (v := ?_) Keeps.refl rfl (fun f w' hR hV => ⟨?_, ?_⟩) ?_
               rotate_left
               · (obtain ⟨h2, _, _, _⟩ := hV; replace h2 : f 2 = _ := h2; exact want_yes (t := 16) rfl (by kernel_rfl) rfl h2)
               · (obtain ⟨h2, h8, h10, _⟩ := hV; replace h2 : f 2 = _ := h2; replace h8 : f 8 = _ := h8; replace h10 : f 10 = _ := h10; obtain ⟨c0, c1, c2, c3, d0⟩ := HS.out _ hR; go_simp; all_goals (try with_reducible rfl)))
            | (refine Steps.skip rfl (fun f w' hR hV => ?_) ?_
               · (obtain ⟨h2, _, _, _⟩ := hV; replace h2 : f 2 = _ := h2; first | exact want_no (t := 16) rfl (by kernel_rfl) rfl h2 rfl | exact want_undef (t := 16) rfl (by kernel_rfl) rfl h2))
          all_goals (
            refine Steps.pure (v := ?_) Keeps.refl rfl (fun f w' hR hV => ⟨?_, ?_⟩) ?_
            rotate_left
            · (rfl)
            · (obtain ⟨h2, h11, _⟩ := hV; replace h2 : f 2 = _ := h2; replace h11 : f 11 = _ := h11; obtain ⟨c0, c1, c2, c3, d0⟩ := HS.out _ hR; go_simp; all_goals (try with_reducible rfl)))
          all_goals (
            refine Steps.pure (v := ?_) Keeps.refl rfl (fun f w' hR hV => ⟨?_, ?_⟩) ?_
            rotate_left
            · (rfl)
            · (obtain ⟨h12, _⟩ := hV; replace h12 : f 12 = _ := h12; obtain ⟨c0, c1, c2, c3, d0⟩ := HS.out _ hR; go_simp; all_goals (try with_reducible rfl)))
          all_goals first
            | (refine Steps.pure (v := ?_) Keeps.refl rfl (fun f w' hR hV => ⟨?_, ?_⟩) ?_
               rotate_left
               · (obtain ⟨h13, _⟩ := hV; replace h13 : f 13 = _ := h13; exact want_yes (t := 27) rfl (by kernel_rfl) rfl h13)
               · (obtain ⟨h13, _⟩ := hV; replace h13 : f 13 = _ := h13; obtain ⟨c0, c1, c2, c3, d0⟩ := HS.out _ hR; go_simp; all_goals (try with_reducible rfl)))
            | (refine Steps.skip rfl (fun f w' hR hV => ?_) ?_
               · (obtain ⟨h13, _⟩ := hV; replace h13 : f 13 = _ := h13; first | exact want_no (t := 27) rfl (by kernel_rfl) rfl h13 rfl | exact want_undef (t := 27) rfl (by kernel_rfl) rfl h13))
          all_goals first
            | (refine Steps.pure (v := ?_) Keeps.refl rfl (fun f w' hR hV => ⟨?_, ?_⟩) ?_
               rotate_left
               · (obtain ⟨h13, _⟩ := hV; replace h13 : f 13 = _ := h13; exact want_yes (t := 27) rfl (by kernel_rfl) rfl h13)
               · (obtain ⟨h13, _⟩ := hV; replace h13 : f 13 = _ := h13; obtain ⟨c0, c1, c2, c3, d0⟩ := HS.out _ hR; go_simp; all_goals (try with_reducible rfl)))
            | (refine Steps.skip rfl (fun f w' hR hV => ?_) ?_
               · (obtain ⟨h13, _⟩ := hV; replace h13 : f 13 = _ := h13; first | exact want_no (t := 27) rfl (by kernel_rfl) rfl h13 rfl | exact want_undef (t := 27) rfl (by kernel_rfl) rfl h13))
          all_goals first
            | (refine Steps.pure (v := ?_) Keeps.refl rfl (fun f w' hR hV => ⟨?_, ?_⟩) ?_
               rotate_left
               · (obtain ⟨h13, _⟩ := hV; replace h13 : f 13 = _ := h13; exact want_yes (t := 27) rfl (by kernel_rfl) rfl h13)
               · (obtain ⟨h13, _⟩ := hV; replace h13 : f 13 = _ := h13; obtain ⟨c0, c1, c2, c3, d0⟩ := HS.out _ hR; go_simp; all_goals (try with_reducible rfl)))
            | (refine Steps.skip rfl (fun f w' hR hV => ?_) ?_
               · (obtain ⟨h13, _⟩ := hV; replace h13 : f 13 = _ := h13; first | exact want_no (t := 27) rfl (by kernel_rfl) rfl h13 rfl | exact want_undef (t := 27) rfl (by kernel_rfl) rfl h13))
          all_goals first
            | (refine Steps.call (fun _ v => v = .bool pr) rfl (fun _ _ _ _ h => h) (fun f w' hR hV => ⟨?_, ?_⟩) ?_
               · (obtain ⟨h13, _, _, _, _⟩ := hV; replace h13 : f 13 = _ := h13; exact want_yes (t := 27) rfl (by kernel_rfl) rfl h13)
               · (obtain ⟨h13, h14, h15, h16, _⟩ := hV; replace h13 : f 13 = _ := h13; replace h14 : f 14 = _ := h14; replace h15 : f 15 = _ := h15; replace h16 : f 16 = _ := h16; obtain ⟨c0, c1, c2, c3, d0⟩ := HS.out _ hR; go_simp; go_at_call 144; refine (HP.out _ (HH.out.keeps ((HW.out.alloc _).drew.trans hR))).mono ?_; rintro e w2 ⟨rfl, hk2⟩; exact StepPost.of _ rfl rfl hk2))
            | (refine Steps.skip rfl (fun f w' hR hV => ?_) ?_
               · (obtain ⟨h13, _, _, _, _⟩ := hV; replace h13 : f 13 = _ := h13; first | exact want_no (t := 27) rfl (by kernel_rfl) rfl h13 rfl | exact want_undef (t := 27) rfl (by kernel_rfl) rfl h13))
          all_goals first
            | (refine Steps.pure (v := ?_) Keeps.refl rfl (fun f w' hR hV => ⟨?_, ?_⟩) ?_
               rotate_left
               · (obtain ⟨h13, _, _⟩ := hV; replace h13 : f 13 = _ := h13; exact want_yes (t := 27) rfl (by kernel_rfl) rfl h13)
               · (obtain ⟨h13, h17, _⟩ := hV; replace h13 : f 13 = _ := h13; replace h17 : f 17 = _ := h17; obtain ⟨c0, c1, c2, c3, d0⟩ := HS.out _ hR; go_simp; all_goals (try with_reducible rfl)))
            | (refine Steps.skip rfl (fun f w' hR hV => ?_) ?_
               · (obtain ⟨h13, _, _⟩ := hV; replace h13 : f 13 = _ := h13; first | exact want_no (t := 27) rfl (by kernel_rfl) rfl h13 rfl | exact want_undef (t := 27) rfl (by kernel_rfl) rfl h13))
          all_goals (
            refine Steps.pure (v := ?_) Keeps.refl rfl (fun f w' hR hV => ⟨?_, ?_⟩) ?_
            rotate_left
            · (rfl)
            · (obtain ⟨h13, h18, _⟩ := hV; replace h13 : f 13 = _ := h13; replace h18 : f 18 = _ := h18; obtain ⟨c0, c1, c2, c3, d0⟩ := HS.out _ hR; go_simp; all_goals (try with_reducible rfl)))
          all_goals (refine Steps.done [19] (by kernel_rfl) rfl (fun f wq hR hV => ?_); obtain ⟨h19, _⟩ := hV; replace h19 : f 19 = _ := h19; simp only [h19])
          all_goals (have HR := Lib.hid ((HW.out.alloc (.cells #[.int .i64 l[m + 1].code, .int .i64 l[m + 1].kind, .int .i64 l[m + 1].basis, .int .i64 l[m + 1].parent] 68)).drew.trans hR); clear hR)
          all_goals (go_wp2; go_ret; rw [HB.out]; exact ⟨rfl, HR.out⟩)
    · obtain rfl : k = l.length := by omega
      have HB := Lib.hid ((validPB_good (fun j hj => HN.out j hj)).trans (decide_eq_true hl))
      have hlz : decide ((l.length : Int) ≤ 200) = true := decide_eq_true (by omega)
      go_wp2_with fail
      go_ret
      rw [HB.out]
      exact ⟨rfl, HW.out⟩
end Go.Proofs.YtoaidbhiciaeaaaGreat

end
