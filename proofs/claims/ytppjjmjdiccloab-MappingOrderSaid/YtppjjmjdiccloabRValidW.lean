/- The reference's Valid of a chart: the walk. -/
import Derived.Test.YtppjjmjdiccloabClimbW
import Derived.Test.YtppjjmjdiccloabBalW
import Derived.Test.YtppjjmjdiccloabRG
namespace Go.Proofs.Ytppjjmjdiccloab
open Go.RowKit
set_option linter.unusedSimpArgs false
set_option linter.unusedVariables false

theorem rclimb_len (l : List Acc) (c : Int) (ao : Option Addr) (cap b o : Nat) (hl : l.length ≤ 1000) : ∃ n : Nat, (climbR l c).length = n ∧ ∀ W, Accs W ao l cap b o → Calls Try.prog 40 #[.slice ao l.length cap, .int .i64 c] W fun e w' => ∃ ao2 cap2, e = .returned (.slice ao2 n cap2) ∧ Keeps W w' := by
  refine ⟨_, rfl, fun W H => (rclimb_any l c ao cap b o W H hl).mono ?_⟩
  rintro e w' ⟨v, rfl, ⟨ao2, cap2, b2, o2, rfl, hs⟩, hk⟩
  exact ⟨ao2, cap2, rfl, hk⟩
theorem pathR_le {l : List Acc} : ∀ (n : Nat) (c : Int), (pathR l n c).length ≤ n
  | 0, _ => by simp [pathR]
  | n + 1, c => by
    simp only [pathR]
    split
    · simp
    · simp only [List.length_cons]; have := pathR_le (l := l) n; rename_i a _; have := this a.parent; omega
theorem rclimb_le (l : List Acc) (c : Int) : (climbR l c).length ≤ l.length + 1 := pathR_le _ _
theorem validRB_bad {l : List Acc} {group : Bool} {k : Nat} (hk : k < l.length) (h : okR l group k = false) : validRB l group = false := by
  unfold validRB; rw [all_range_false hk h, Bool.and_false]
theorem validRB_good {l : List Acc} {group : Bool} (h : ∀ k < l.length, okR l group k = true) : validRB l group = decide (l.length ≤ 200) := by
  unfold validRB
  rw [List.all_eq_true.2 (fun k hk => h k (List.mem_range.1 hk)), Bool.and_true]

set_option maxRecDepth 100000 in
set_option maxHeartbeats 4000000 in
theorem rvalid_any (l : List Acc) (group : Bool) (ao : Option Addr) (cap b o : Nat) (w : World) (H : Accs w ao l cap b o) (hl : l.length ≤ 200) :
    Calls Try.prog 24 #[.slice ao l.length cap, .bool group] w fun e w' => e = .returned (.bool (validRB l group)) ∧ Keeps w w' := by
  have hcap := Sl.cap H
  have hle := Sl.le H
  have HH := Lib.hid H
  clear H
  go_enter Try.func24, Try.ntmps24
  go_wp2_with fail
  go_loopw [5] (fun vi wr => ∃ k : Nat, k ≤ l.length ∧ vi = .int .i64 k ∧ Hid (∀ j < k, okR l group j = true) ∧ Hid (Keeps w wr)) (fun vi _ => l.length - (intOf vi).toNat)
  case atStart => exact ⟨0, Nat.zero_le _, rfl, Lib.hid (fun j hj => absurd hj (Nat.not_lt_zero _)), Lib.hid (Keeps.refl w)⟩
  case round =>
    obtain ⟨k, hk, rfl, HN, HW⟩ := hrel
    by_cases hlt : k < l.length
    · have HL := HH.out.keeps HW.out
      have hix := Sl.at HL Try.underlying22 Try.sizeOf50 k hlt
      have c0 := HL.cell Acc.len k hlt 0 _ rfl
      have c1 := HL.cell Acc.len k hlt 1 _ rfl
      have c2 := HL.cell Acc.len k hlt 2 _ rfl
      have c3 := HL.cell Acc.len k hlt 3 _ rfl
      simp only [Nat.add_zero] at c0
      obtain ⟨n, hn, hC⟩ := rclimb_len l l[k].code ao cap b o (by omega)
      obtain ⟨pr, hpr⟩ : ∃ pr, properRB l l[k] group = pr := ⟨_, rfl⟩
      have hok := okR_proper (group := group) hlt
      rw [hpr, hn] at hok
      have HP : Hid (∀ W, Accs W ao l cap b o → Calls Try.prog 39 #[.slice ao l.length cap, .agg #[.int .i64 l[k].code, .int .i64 l[k].kind, .int .i64 l[k].basis, .int .i64 l[k].parent], .bool group] W fun e w' => e = .returned (.bool pr) ∧ Keeps W w') := Lib.hid (fun W h => by have := rproper_any l l[k] group ao cap b o W h; rw [hpr] at this; exact this)
      have HC := Lib.hid hC
      have hn200 : n ≤ 100000 := by have := rclimb_le l l[k].code; omega
      clear hpr hn hC
      cases k with
      | zero =>
        rw [riseB_zero, Bool.and_true] at hok
        have HOK := Lib.hid hok
        simp only [Nat.zero_mul, Nat.add_zero, Int.natCast_zero] at hix c0 c1 c2 c3
        have HS : Hid (∀ w', Keeps wr.drew w' → w'.cell? ⟨b, o, none⟩ = some (.int .i64 l[0].code) ∧ w'.cell? ⟨b, o + 1, none⟩ = some (.int .i64 l[0].kind) ∧ w'.cell? ⟨b, o + 2, none⟩ = some (.int .i64 l[0].basis) ∧ w'.cell? ⟨b, o + 3, none⟩ = some (.int .i64 l[0].parent) ∧ True) := Lib.hid (fun w' h => have h := (Keeps.refl wr).drew.trans h; ⟨h.cell c0, h.cell c1, h.cell c2, h.cell c3, trivial⟩)
        clear HL c0 c1 c2 c3 hok
        go_wp2_with fail
        refine wp_region_steps (A := ?_) Keeps [some 15, some 16, some 17, some 18, some 19, some 20, some 21, some 22, some 23, some 24, some 25, some 26, some 27, some 28, some 29, some 30, some 31, some 32, some 33, some 34, some 35, some 36, some 37, some 38, some 39, some 40, some 41, some 42, some 43, some 44, some 45, some 46, some 47, some 48, some 49, some 50, some 51, some 52, some 53] [[], [], [], [1, 2], [3], [], [0, 4, 5], [6], [7], [8], [8, 9], [8, 10], [11], [11], [11, 12, 13], [11, 14], [11, 15], [11], [11], [11, 18], [11, 17, 19], [11, 20], [11, 21], [11, 16, 22], [8, 11, 23], [8, 24], [25], [26], [26], [26], [26, 28, 29], [26, 30], [26, 31], [26, 27, 32], [26, 33], [26], [26, 35], [26, 34, 36], [26, 37]] 39 (by kernel_rfl) (by kernel_rfl) (by kernel_rfl) (by kernel_rfl) (by kernel_rfl) (by kernel_rfl) Keeps.refl (fun _ _ _ => Keeps.trans) ?_ ?_
        rotate_left
        · intro f; simp only [putL, Act.put, List.setIfInBounds_toArray, List.set_cons_zero, List.set_cons_succ, Nat.zero_add, Nat.reduceAdd]; exact rfl
        refine Steps.pure (v := ?_) Keeps.refl rfl (fun f w' hR hV => ⟨?_, ?_⟩) ?_
        rotate_left
        · (rfl)
        · (clear hV; obtain ⟨c0, c1, c2, c3, d0⟩ := HS.out _ hR; go_simp; all_goals (try with_reducible rfl))
        refine Steps.pure (v := ?_) Keeps.refl rfl (fun f w' hR hV => ⟨?_, ?_⟩) ?_
        rotate_left
        · (rfl)
        · (clear hV; obtain ⟨c0, c1, c2, c3, d0⟩ := HS.out _ hR; go_simp; all_goals (try with_reducible rfl))
        refine Steps.pure (v := ?_) Keeps.refl rfl (fun f w' hR hV => ⟨?_, ?_⟩) ?_
        rotate_left
        · (rfl)
        · (clear hV; obtain ⟨c0, c1, c2, c3, d0⟩ := HS.out _ hR; go_simp; all_goals (try with_reducible rfl))
        refine Steps.pure (v := ?_) Keeps.refl rfl (fun f w' hR hV => ⟨?_, ?_⟩) ?_
        rotate_left
        · (rfl)
        · (obtain ⟨h1, h2, _⟩ := hV; replace h1 : f 1 = _ := h1; replace h2 : f 2 = _ := h2; obtain ⟨c0, c1, c2, c3, d0⟩ := HS.out _ hR; go_simp; all_goals (try with_reducible rfl))
        refine Steps.pure (v := ?_) Keeps.refl rfl (fun f w' hR hV => ⟨?_, ?_⟩) ?_
        rotate_left
        · (rfl)
        · (obtain ⟨h3, _⟩ := hV; replace h3 : f 3 = _ := h3; obtain ⟨c0, c1, c2, c3, d0⟩ := HS.out _ hR; go_simp; all_goals (try with_reducible rfl))
        refine Steps.pure (v := ?_) Keeps.refl rfl (fun f w' hR hV => ⟨?_, ?_⟩) ?_
        rotate_left
        · (rfl)
        · (clear hV; obtain ⟨c0, c1, c2, c3, d0⟩ := HS.out _ hR; go_simp; all_goals (try with_reducible rfl))
        refine Steps.call (fun _ v => v = .bool pr) rfl (fun _ _ _ _ h => h) (fun f w' hR hV => ⟨?_, ?_⟩) ?_
        · (rfl)
        · (obtain ⟨h0, h4, h5, _⟩ := hV; replace h0 : f 0 = _ := h0; replace h4 : f 4 = _ := h4; replace h5 : f 5 = _ := h5; obtain ⟨c0, c1, c2, c3, d0⟩ := HS.out _ hR; go_simp; go_at_call 39; refine (HP.out _ (HH.out.keeps (HW.out.drew.trans hR))).mono ?_; rintro e w2 ⟨rfl, hk2⟩; exact StepPost.of _ rfl rfl hk2)
        refine Steps.pure (v := ?_) Keeps.refl rfl (fun f w' hR hV => ⟨?_, ?_⟩) ?_
        rotate_left
        · (rfl)
        · (obtain ⟨h6, _⟩ := hV; replace h6 : f 6 = _ := h6; obtain ⟨c0, c1, c2, c3, d0⟩ := HS.out _ hR; go_simp; all_goals (try with_reducible rfl))
        refine Steps.pure (v := ?_) Keeps.refl rfl (fun f w' hR hV => ⟨?_, ?_⟩) ?_
        rotate_left
        · (rfl)
        · (obtain ⟨h7, _⟩ := hV; replace h7 : f 7 = _ := h7; obtain ⟨c0, c1, c2, c3, d0⟩ := HS.out _ hR; go_simp; all_goals (try with_reducible rfl))
        cases pr
        all_goals first
          | (refine Steps.pure (v := ?_) Keeps.refl rfl (fun f w' hR hV => ⟨?_, ?_⟩) ?_
             rotate_left
             · (obtain ⟨h8, _⟩ := hV; replace h8 : f 8 = _ := h8; exact want_yes (t := 23) rfl (by kernel_rfl) rfl h8)
             · (obtain ⟨h8, _⟩ := hV; replace h8 : f 8 = _ := h8; obtain ⟨c0, c1, c2, c3, d0⟩ := HS.out _ hR; go_simp; all_goals (try with_reducible rfl)))
          | (refine Steps.skip rfl (fun f w' hR hV => ?_) ?_
             · (obtain ⟨h8, _⟩ := hV; replace h8 : f 8 = _ := h8; first | exact want_no (t := 23) rfl (by kernel_rfl) rfl h8 rfl | exact want_undef (t := 23) rfl (by kernel_rfl) rfl h8))
        all_goals first
          | (refine Steps.pure (v := ?_) Keeps.refl rfl (fun f w' hR hV => ⟨?_, ?_⟩) ?_
             rotate_left
             · (obtain ⟨h8, _, _⟩ := hV; replace h8 : f 8 = _ := h8; exact want_yes (t := 23) rfl (by kernel_rfl) rfl h8)
             · (obtain ⟨h8, h9, _⟩ := hV; replace h8 : f 8 = _ := h8; replace h9 : f 9 = _ := h9; obtain ⟨c0, c1, c2, c3, d0⟩ := HS.out _ hR; go_simp; all_goals (try with_reducible rfl)))
          | (refine Steps.skip rfl (fun f w' hR hV => ?_) ?_
             · (obtain ⟨h8, _, _⟩ := hV; replace h8 : f 8 = _ := h8; first | exact want_no (t := 23) rfl (by kernel_rfl) rfl h8 rfl | exact want_undef (t := 23) rfl (by kernel_rfl) rfl h8))
        all_goals first
          | (refine Steps.pure (v := ?_) Keeps.refl rfl (fun f w' hR hV => ⟨?_, ?_⟩) ?_
             rotate_left
             · (obtain ⟨h8, _, _⟩ := hV; replace h8 : f 8 = _ := h8; exact want_yes (t := 23) rfl (by kernel_rfl) rfl h8)
             · (obtain ⟨h8, h10, _⟩ := hV; replace h8 : f 8 = _ := h8; replace h10 : f 10 = _ := h10; obtain ⟨c0, c1, c2, c3, d0⟩ := HS.out _ hR; go_simp; all_goals (try with_reducible rfl)))
          | (refine Steps.skip rfl (fun f w' hR hV => ?_) ?_
             · (obtain ⟨h8, _, _⟩ := hV; replace h8 : f 8 = _ := h8; first | exact want_no (t := 23) rfl (by kernel_rfl) rfl h8 rfl | exact want_undef (t := 23) rfl (by kernel_rfl) rfl h8))
        all_goals first
          | (refine Steps.pure (v := ?_) Keeps.refl rfl (fun f w' hR hV => ⟨?_, ?_⟩) ?_
             rotate_left
             · (obtain ⟨h11, _⟩ := hV; replace h11 : f 11 = _ := h11; exact want_yes (t := 26) rfl (by kernel_rfl) rfl h11)
             · (obtain ⟨h11, _⟩ := hV; replace h11 : f 11 = _ := h11; obtain ⟨c0, c1, c2, c3, d0⟩ := HS.out _ hR; go_simp; all_goals (try with_reducible rfl)))
          | (refine Steps.skip rfl (fun f w' hR hV => ?_) ?_
             · (obtain ⟨h11, _⟩ := hV; replace h11 : f 11 = _ := h11; first | exact want_no (t := 26) rfl (by kernel_rfl) rfl h11 rfl | exact want_undef (t := 26) rfl (by kernel_rfl) rfl h11))
        all_goals first
          | (refine Steps.pure (v := ?_) Keeps.refl rfl (fun f w' hR hV => ⟨?_, ?_⟩) ?_
             rotate_left
             · (obtain ⟨h11, _⟩ := hV; replace h11 : f 11 = _ := h11; exact want_yes (t := 26) rfl (by kernel_rfl) rfl h11)
             · (obtain ⟨h11, _⟩ := hV; replace h11 : f 11 = _ := h11; obtain ⟨c0, c1, c2, c3, d0⟩ := HS.out _ hR; go_simp; all_goals (try with_reducible rfl)))
          | (refine Steps.skip rfl (fun f w' hR hV => ?_) ?_
             · (obtain ⟨h11, _⟩ := hV; replace h11 : f 11 = _ := h11; first | exact want_no (t := 26) rfl (by kernel_rfl) rfl h11 rfl | exact want_undef (t := 26) rfl (by kernel_rfl) rfl h11))
        all_goals first
          | (refine Steps.pure (v := ?_) Keeps.refl rfl (fun f w' hR hV => ⟨?_, ?_⟩) ?_
             rotate_left
             · (obtain ⟨h11, _, _, _⟩ := hV; replace h11 : f 11 = _ := h11; exact want_yes (t := 26) rfl (by kernel_rfl) rfl h11)
             · (obtain ⟨h11, h12, h13, _⟩ := hV; replace h11 : f 11 = _ := h11; replace h12 : f 12 = _ := h12; replace h13 : f 13 = _ := h13; obtain ⟨c0, c1, c2, c3, d0⟩ := HS.out _ hR; go_simp; all_goals (try with_reducible rfl)))
          | (refine Steps.skip rfl (fun f w' hR hV => ?_) ?_
             · (obtain ⟨h11, _, _, _⟩ := hV; replace h11 : f 11 = _ := h11; first | exact want_no (t := 26) rfl (by kernel_rfl) rfl h11 rfl | exact want_undef (t := 26) rfl (by kernel_rfl) rfl h11))
        all_goals first
          | (refine Steps.pure (v := ?_) Keeps.refl rfl (fun f w' hR hV => ⟨?_, ?_⟩) ?_
             rotate_left
             · (obtain ⟨h11, _, _⟩ := hV; replace h11 : f 11 = _ := h11; exact want_yes (t := 26) rfl (by kernel_rfl) rfl h11)
             · (obtain ⟨h11, h14, _⟩ := hV; replace h11 : f 11 = _ := h11; replace h14 : f 14 = _ := h14; obtain ⟨c0, c1, c2, c3, d0⟩ := HS.out _ hR; go_simp; all_goals (try with_reducible rfl)))
          | (refine Steps.skip rfl (fun f w' hR hV => ?_) ?_
             · (obtain ⟨h11, _, _⟩ := hV; replace h11 : f 11 = _ := h11; first | exact want_no (t := 26) rfl (by kernel_rfl) rfl h11 rfl | exact want_undef (t := 26) rfl (by kernel_rfl) rfl h11))
        all_goals first
          | (refine Steps.pure (v := ?_) Keeps.refl rfl (fun f w' hR hV => ⟨?_, ?_⟩) ?_
             rotate_left
             · (obtain ⟨h11, _, _⟩ := hV; replace h11 : f 11 = _ := h11; exact want_yes (t := 26) rfl (by kernel_rfl) rfl h11)
             · (obtain ⟨h11, h15, _⟩ := hV; replace h11 : f 11 = _ := h11; replace h15 : f 15 = _ := h15; obtain ⟨c0, c1, c2, c3, d0⟩ := HS.out _ hR; go_simp; all_goals (try with_reducible rfl)))
          | (refine Steps.skip rfl (fun f w' hR hV => ?_) ?_
             · (obtain ⟨h11, _, _⟩ := hV; replace h11 : f 11 = _ := h11; first | exact want_no (t := 26) rfl (by kernel_rfl) rfl h11 rfl | exact want_undef (t := 26) rfl (by kernel_rfl) rfl h11))
        all_goals first
          | (refine Steps.pure (v := ?_) Keeps.refl rfl (fun f w' hR hV => ⟨?_, ?_⟩) ?_
             rotate_left
             · (obtain ⟨h11, _⟩ := hV; replace h11 : f 11 = _ := h11; exact want_yes (t := 26) rfl (by kernel_rfl) rfl h11)
             · (obtain ⟨h11, _⟩ := hV; replace h11 : f 11 = _ := h11; obtain ⟨c0, c1, c2, c3, d0⟩ := HS.out _ hR; go_simp; all_goals (try with_reducible rfl)))
          | (refine Steps.skip rfl (fun f w' hR hV => ?_) ?_
             · (obtain ⟨h11, _⟩ := hV; replace h11 : f 11 = _ := h11; first | exact want_no (t := 26) rfl (by kernel_rfl) rfl h11 rfl | exact want_undef (t := 26) rfl (by kernel_rfl) rfl h11))
        all_goals first
          | (refine Steps.pure (v := ?_) Keeps.refl rfl (fun f w' hR hV => ⟨?_, ?_⟩) ?_
             rotate_left
             · (obtain ⟨h11, _⟩ := hV; replace h11 : f 11 = _ := h11; exact want_yes (t := 26) rfl (by kernel_rfl) rfl h11)
             · (obtain ⟨h11, _⟩ := hV; replace h11 : f 11 = _ := h11; obtain ⟨c0, c1, c2, c3, d0⟩ := HS.out _ hR; go_simp; all_goals (try with_reducible rfl)))
          | (refine Steps.skip rfl (fun f w' hR hV => ?_) ?_
             · (obtain ⟨h11, _⟩ := hV; replace h11 : f 11 = _ := h11; first | exact want_no (t := 26) rfl (by kernel_rfl) rfl h11 rfl | exact want_undef (t := 26) rfl (by kernel_rfl) rfl h11))
        all_goals first
          | (refine Steps.pure (v := ?_) Keeps.refl rfl (fun f w' hR hV => ⟨?_, ?_⟩) ?_
             rotate_left
             · (obtain ⟨h11, _, _⟩ := hV; replace h11 : f 11 = _ := h11; exact want_yes (t := 26) rfl (by kernel_rfl) rfl h11)
             · (obtain ⟨h11, h18, _⟩ := hV; replace h11 : f 11 = _ := h11; replace h18 : f 18 = _ := h18; obtain ⟨c0, c1, c2, c3, d0⟩ := HS.out _ hR; go_simp; all_goals (try with_reducible rfl)))
          | (refine Steps.skip rfl (fun f w' hR hV => ?_) ?_
             · (obtain ⟨h11, _, _⟩ := hV; replace h11 : f 11 = _ := h11; first | exact want_no (t := 26) rfl (by kernel_rfl) rfl h11 rfl | exact want_undef (t := 26) rfl (by kernel_rfl) rfl h11))
        all_goals first
          | (refine Steps.pure (v := ?_) Keeps.refl rfl (fun f w' hR hV => ⟨?_, ?_⟩) ?_
             rotate_left
             · (obtain ⟨h11, _, _, _⟩ := hV; replace h11 : f 11 = _ := h11; exact want_yes (t := 26) rfl (by kernel_rfl) rfl h11)
             · (obtain ⟨h11, h17, h19, _⟩ := hV; replace h11 : f 11 = _ := h11; replace h17 : f 17 = _ := h17; replace h19 : f 19 = _ := h19; obtain ⟨c0, c1, c2, c3, d0⟩ := HS.out _ hR; go_simp; all_goals (try with_reducible rfl)))
          | (refine Steps.skip rfl (fun f w' hR hV => ?_) ?_
             · (obtain ⟨h11, _, _, _⟩ := hV; replace h11 : f 11 = _ := h11; first | exact want_no (t := 26) rfl (by kernel_rfl) rfl h11 rfl | exact want_undef (t := 26) rfl (by kernel_rfl) rfl h11))
        all_goals first
          | (refine Steps.pure (v := ?_) Keeps.refl rfl (fun f w' hR hV => ⟨?_, ?_⟩) ?_
             rotate_left
             · (obtain ⟨h11, _, _⟩ := hV; replace h11 : f 11 = _ := h11; exact want_yes (t := 26) rfl (by kernel_rfl) rfl h11)
             · (obtain ⟨h11, h20, _⟩ := hV; replace h11 : f 11 = _ := h11; replace h20 : f 20 = _ := h20; obtain ⟨c0, c1, c2, c3, d0⟩ := HS.out _ hR; go_simp; all_goals (try with_reducible rfl)))
          | (refine Steps.skip rfl (fun f w' hR hV => ?_) ?_
             · (obtain ⟨h11, _, _⟩ := hV; replace h11 : f 11 = _ := h11; first | exact want_no (t := 26) rfl (by kernel_rfl) rfl h11 rfl | exact want_undef (t := 26) rfl (by kernel_rfl) rfl h11))
        all_goals first
          | (refine Steps.pure (v := ?_) Keeps.refl rfl (fun f w' hR hV => ⟨?_, ?_⟩) ?_
             rotate_left
             · (obtain ⟨h11, _, _⟩ := hV; replace h11 : f 11 = _ := h11; exact want_yes (t := 26) rfl (by kernel_rfl) rfl h11)
             · (obtain ⟨h11, h21, _⟩ := hV; replace h11 : f 11 = _ := h11; replace h21 : f 21 = _ := h21; obtain ⟨c0, c1, c2, c3, d0⟩ := HS.out _ hR; go_simp; all_goals (try with_reducible rfl)))
          | (refine Steps.skip rfl (fun f w' hR hV => ?_) ?_
             · (obtain ⟨h11, _, _⟩ := hV; replace h11 : f 11 = _ := h11; first | exact want_no (t := 26) rfl (by kernel_rfl) rfl h11 rfl | exact want_undef (t := 26) rfl (by kernel_rfl) rfl h11))
        all_goals first
          | (refine Steps.pure (v := ?_) Keeps.refl rfl (fun f w' hR hV => ⟨?_, ?_⟩) ?_
             rotate_left
             · (obtain ⟨h11, _, _, _⟩ := hV; replace h11 : f 11 = _ := h11; exact want_yes (t := 26) rfl (by kernel_rfl) rfl h11)
             · (obtain ⟨h11, h16, h22, _⟩ := hV; replace h11 : f 11 = _ := h11; replace h16 : f 16 = _ := h16; replace h22 : f 22 = _ := h22; obtain ⟨c0, c1, c2, c3, d0⟩ := HS.out _ hR; go_simp; all_goals (try with_reducible rfl)))
          | (refine Steps.skip rfl (fun f w' hR hV => ?_) ?_
             · (obtain ⟨h11, _, _, _⟩ := hV; replace h11 : f 11 = _ := h11; first | exact want_no (t := 26) rfl (by kernel_rfl) rfl h11 rfl | exact want_undef (t := 26) rfl (by kernel_rfl) rfl h11))
        all_goals first
          | (refine Steps.pure (v := ?_) Keeps.refl rfl (fun f w' hR hV => ⟨?_, ?_⟩) ?_
             rotate_left
             · (obtain ⟨h8, _, _, _⟩ := hV; replace h8 : f 8 = _ := h8; exact want_yes (t := 23) rfl (by kernel_rfl) rfl h8)
             · (obtain ⟨h8, h11, h23, _⟩ := hV; replace h8 : f 8 = _ := h8; replace h11 : f 11 = _ := h11; replace h23 : f 23 = _ := h23; obtain ⟨c0, c1, c2, c3, d0⟩ := HS.out _ hR; go_simp; all_goals (try with_reducible rfl)))
          | (refine Steps.skip rfl (fun f w' hR hV => ?_) ?_
             · (obtain ⟨h8, _, _, _⟩ := hV; replace h8 : f 8 = _ := h8; first | exact want_no (t := 23) rfl (by kernel_rfl) rfl h8 rfl | exact want_undef (t := 23) rfl (by kernel_rfl) rfl h8))
        all_goals (
          refine Steps.pure (v := ?_) Keeps.refl rfl (fun f w' hR hV => ⟨?_, ?_⟩) ?_
          rotate_left
          · (rfl)
          · (obtain ⟨h8, h24, _⟩ := hV; replace h8 : f 8 = _ := h8; replace h24 : f 24 = _ := h24; obtain ⟨c0, c1, c2, c3, d0⟩ := HS.out _ hR; go_simp; all_goals (try with_reducible rfl)))
        all_goals (
          refine Steps.pure (v := ?_) Keeps.refl rfl (fun f w' hR hV => ⟨?_, ?_⟩) ?_
          rotate_left
          · (rfl)
          · (obtain ⟨h25, _⟩ := hV; replace h25 : f 25 = _ := h25; obtain ⟨c0, c1, c2, c3, d0⟩ := HS.out _ hR; go_simp; all_goals (try with_reducible rfl)))
        all_goals first
          | (refine Steps.pure (v := ?_) Keeps.refl rfl (fun f w' hR hV => ⟨?_, ?_⟩) ?_
             rotate_left
             · (obtain ⟨h26, _⟩ := hV; replace h26 : f 26 = _ := h26; exact want_yes (t := 41) rfl (by kernel_rfl) rfl h26)
             · (obtain ⟨h26, _⟩ := hV; replace h26 : f 26 = _ := h26; obtain ⟨c0, c1, c2, c3, d0⟩ := HS.out _ hR; go_simp; all_goals (try with_reducible rfl)))
          | (refine Steps.skip rfl (fun f w' hR hV => ?_) ?_
             · (obtain ⟨h26, _⟩ := hV; replace h26 : f 26 = _ := h26; first | exact want_no (t := 41) rfl (by kernel_rfl) rfl h26 rfl | exact want_undef (t := 41) rfl (by kernel_rfl) rfl h26))
        all_goals first
          | (refine Steps.pure (v := ?_) Keeps.refl rfl (fun f w' hR hV => ⟨?_, ?_⟩) ?_
             rotate_left
             · (obtain ⟨h26, _⟩ := hV; replace h26 : f 26 = _ := h26; exact want_yes (t := 41) rfl (by kernel_rfl) rfl h26)
             · (obtain ⟨h26, _⟩ := hV; replace h26 : f 26 = _ := h26; obtain ⟨c0, c1, c2, c3, d0⟩ := HS.out _ hR; go_simp; all_goals (try with_reducible rfl)))
          | (refine Steps.skip rfl (fun f w' hR hV => ?_) ?_
             · (obtain ⟨h26, _⟩ := hV; replace h26 : f 26 = _ := h26; first | exact want_no (t := 41) rfl (by kernel_rfl) rfl h26 rfl | exact want_undef (t := 41) rfl (by kernel_rfl) rfl h26))
        all_goals first
          | (refine Steps.pure (v := ?_) Keeps.refl rfl (fun f w' hR hV => ⟨?_, ?_⟩) ?_
             rotate_left
             · (obtain ⟨h26, _⟩ := hV; replace h26 : f 26 = _ := h26; exact want_yes (t := 41) rfl (by kernel_rfl) rfl h26)
             · (obtain ⟨h26, _⟩ := hV; replace h26 : f 26 = _ := h26; obtain ⟨c0, c1, c2, c3, d0⟩ := HS.out _ hR; go_simp; all_goals (try with_reducible rfl)))
          | (refine Steps.skip rfl (fun f w' hR hV => ?_) ?_
             · (obtain ⟨h26, _⟩ := hV; replace h26 : f 26 = _ := h26; first | exact want_no (t := 41) rfl (by kernel_rfl) rfl h26 rfl | exact want_undef (t := 41) rfl (by kernel_rfl) rfl h26))
        all_goals first
          | (refine Steps.pure (v := ?_) Keeps.refl rfl (fun f w' hR hV => ⟨?_, ?_⟩) ?_
             rotate_left
             · (obtain ⟨h26, _, _, _⟩ := hV; replace h26 : f 26 = _ := h26; exact want_yes (t := 41) rfl (by kernel_rfl) rfl h26)
             · (obtain ⟨h26, h28, h29, _⟩ := hV; replace h26 : f 26 = _ := h26; replace h28 : f 28 = _ := h28; replace h29 : f 29 = _ := h29; obtain ⟨c0, c1, c2, c3, d0⟩ := HS.out _ hR; go_simp; all_goals (try with_reducible rfl)))
          | (refine Steps.skip rfl (fun f w' hR hV => ?_) ?_
             · (obtain ⟨h26, _, _, _⟩ := hV; replace h26 : f 26 = _ := h26; first | exact want_no (t := 41) rfl (by kernel_rfl) rfl h26 rfl | exact want_undef (t := 41) rfl (by kernel_rfl) rfl h26))
        all_goals first
          | (refine Steps.pure (v := ?_) Keeps.refl rfl (fun f w' hR hV => ⟨?_, ?_⟩) ?_
             rotate_left
             · (obtain ⟨h26, _, _⟩ := hV; replace h26 : f 26 = _ := h26; exact want_yes (t := 41) rfl (by kernel_rfl) rfl h26)
             · (obtain ⟨h26, h30, _⟩ := hV; replace h26 : f 26 = _ := h26; replace h30 : f 30 = _ := h30; obtain ⟨c0, c1, c2, c3, d0⟩ := HS.out _ hR; go_simp; all_goals (try with_reducible rfl)))
          | (refine Steps.skip rfl (fun f w' hR hV => ?_) ?_
             · (obtain ⟨h26, _, _⟩ := hV; replace h26 : f 26 = _ := h26; first | exact want_no (t := 41) rfl (by kernel_rfl) rfl h26 rfl | exact want_undef (t := 41) rfl (by kernel_rfl) rfl h26))
        all_goals first
          | (refine Steps.pure (v := ?_) Keeps.refl rfl (fun f w' hR hV => ⟨?_, ?_⟩) ?_
             rotate_left
             · (obtain ⟨h26, _, _⟩ := hV; replace h26 : f 26 = _ := h26; exact want_yes (t := 41) rfl (by kernel_rfl) rfl h26)
             · (obtain ⟨h26, h31, _⟩ := hV; replace h26 : f 26 = _ := h26; replace h31 : f 31 = _ := h31; obtain ⟨c0, c1, c2, c3, d0⟩ := HS.out _ hR; go_simp; all_goals (try with_reducible rfl)))
          | (refine Steps.skip rfl (fun f w' hR hV => ?_) ?_
             · (obtain ⟨h26, _, _⟩ := hV; replace h26 : f 26 = _ := h26; first | exact want_no (t := 41) rfl (by kernel_rfl) rfl h26 rfl | exact want_undef (t := 41) rfl (by kernel_rfl) rfl h26))
        all_goals first
          | (refine Steps.call (fun _ v => ∃ ao2 cap2, v = .slice ao2 n cap2) rfl (fun _ _ _ _ h => h) (fun f w' hR hV => ⟨?_, ?_⟩) ?_
             · (obtain ⟨h26, _, _, _⟩ := hV; replace h26 : f 26 = _ := h26; exact want_yes (t := 41) rfl (by kernel_rfl) rfl h26)
             · (obtain ⟨h26, h27, h32, _⟩ := hV; replace h26 : f 26 = _ := h26; replace h27 : f 27 = _ := h27; replace h32 : f 32 = _ := h32; obtain ⟨c0, c1, c2, c3, d0⟩ := HS.out _ hR; go_simp; go_at_call 40; refine (HC.out _ (HH.out.keeps (HW.out.drew.trans hR))).mono ?_; rintro e w2 ⟨ao2, cap2, rfl, hk2⟩; exact StepPost.of _ rfl ⟨_, _, rfl⟩ hk2))
          | (refine Steps.skip rfl (fun f w' hR hV => ?_) ?_
             · (obtain ⟨h26, _, _, _⟩ := hV; replace h26 : f 26 = _ := h26; first | exact want_no (t := 41) rfl (by kernel_rfl) rfl h26 rfl | exact want_undef (t := 41) rfl (by kernel_rfl) rfl h26))
        all_goals first
          | (refine Steps.pure (v := ?_) Keeps.refl rfl (fun f w' hR hV => ⟨?_, ?_⟩) ?_
             rotate_left
             · (obtain ⟨h26, _, _⟩ := hV; replace h26 : f 26 = _ := h26; exact want_yes (t := 41) rfl (by kernel_rfl) rfl h26)
             · (obtain ⟨h26, h33, _⟩ := hV; replace h26 : f 26 = _ := h26; replace h33 : ∃ ao2 cap2, f 33 = .slice ao2 n cap2 := h33; obtain ⟨ao2, cap2, h33⟩ := h33; go_simp; all_goals (try with_reducible rfl)))
          | (refine Steps.skip rfl (fun f w' hR hV => ?_) ?_
             · (obtain ⟨h26, _, _⟩ := hV; replace h26 : f 26 = _ := h26; first | exact want_no (t := 41) rfl (by kernel_rfl) rfl h26 rfl | exact want_undef (t := 41) rfl (by kernel_rfl) rfl h26))
        all_goals first
          | (refine Steps.pure (v := ?_) Keeps.refl rfl (fun f w' hR hV => ⟨?_, ?_⟩) ?_
             rotate_left
             · (obtain ⟨h26, _⟩ := hV; replace h26 : f 26 = _ := h26; exact want_yes (t := 41) rfl (by kernel_rfl) rfl h26)
             · (obtain ⟨h26, _⟩ := hV; replace h26 : f 26 = _ := h26; obtain ⟨c0, c1, c2, c3, d0⟩ := HS.out _ hR; go_simp; all_goals (try with_reducible rfl)))
          | (refine Steps.skip rfl (fun f w' hR hV => ?_) ?_
             · (obtain ⟨h26, _⟩ := hV; replace h26 : f 26 = _ := h26; first | exact want_no (t := 41) rfl (by kernel_rfl) rfl h26 rfl | exact want_undef (t := 41) rfl (by kernel_rfl) rfl h26))
        all_goals first
          | (refine Steps.pure (v := ?_) Keeps.refl rfl (fun f w' hR hV => ⟨?_, ?_⟩) ?_
             rotate_left
             · (obtain ⟨h26, _, _⟩ := hV; replace h26 : f 26 = _ := h26; exact want_yes (t := 41) rfl (by kernel_rfl) rfl h26)
             · (obtain ⟨h26, h35, _⟩ := hV; replace h26 : f 26 = _ := h26; replace h35 : f 35 = _ := h35; obtain ⟨c0, c1, c2, c3, d0⟩ := HS.out _ hR; go_simp; all_goals (try with_reducible rfl)))
          | (refine Steps.skip rfl (fun f w' hR hV => ?_) ?_
             · (obtain ⟨h26, _, _⟩ := hV; replace h26 : f 26 = _ := h26; first | exact want_no (t := 41) rfl (by kernel_rfl) rfl h26 rfl | exact want_undef (t := 41) rfl (by kernel_rfl) rfl h26))
        all_goals first
          | (refine Steps.pure (v := ?_) Keeps.refl rfl (fun f w' hR hV => ⟨?_, ?_⟩) ?_
             rotate_left
             · (obtain ⟨h26, _, _, _⟩ := hV; replace h26 : f 26 = _ := h26; exact want_yes (t := 41) rfl (by kernel_rfl) rfl h26)
             · (obtain ⟨h26, h34, h36, _⟩ := hV; replace h26 : f 26 = _ := h26; replace h34 : f 34 = _ := h34; replace h36 : f 36 = _ := h36; obtain ⟨c0, c1, c2, c3, d0⟩ := HS.out _ hR; go_simp; all_goals (try with_reducible rfl)))
          | (refine Steps.skip rfl (fun f w' hR hV => ?_) ?_
             · (obtain ⟨h26, _, _, _⟩ := hV; replace h26 : f 26 = _ := h26; first | exact want_no (t := 41) rfl (by kernel_rfl) rfl h26 rfl | exact want_undef (t := 41) rfl (by kernel_rfl) rfl h26))
        all_goals (
          refine Steps.pure (v := ?_) Keeps.refl rfl (fun f w' hR hV => ⟨?_, ?_⟩) ?_
          rotate_left
          · (rfl)
          · (obtain ⟨h26, h37, _⟩ := hV; replace h26 : f 26 = _ := h26; replace h37 : f 37 = _ := h37; obtain ⟨c0, c1, c2, c3, d0⟩ := HS.out _ hR; go_simp; all_goals (try with_reducible rfl)))
        all_goals (refine Steps.done [38] (by kernel_rfl) rfl (fun f wq hR hV => ?_); obtain ⟨h38, _⟩ := hV; replace h38 : f 38 = _ := h38; simp only [h38])
        all_goals (have HR := Lib.hid (HW.out.drew.trans hR); clear hR)
        · have HB := Lib.hid (validRB_bad hlt (HOK.out.trans (Bool.false_and _)))
          go_wp2
          go_ret
          rw [HB.out]
          exact ⟨rfl, HR.out⟩
        · by_cases hc : n ≤ l.length
          · have hc' : decide ((l.length : Int) < (n : Int)) = false := decide_eq_false (by omega)
            go_wp2
            go_roundw
            case rel => exact ⟨1, by omega, by go_num, Lib.hid (fun j hj => by obtain rfl : j = 0 := (by omega); exact HOK.out.trans (by rw [decide_eq_true hc]; rfl)), HR⟩
            case measure => simp [intOf]; omega
          · have hc' : decide ((l.length : Int) < (n : Int)) = true := decide_eq_true (by omega)
            have HB := Lib.hid (validRB_bad hlt (by rw [HOK.out, decide_eq_false hc]; rfl))
            go_wp2
            go_ret
            rw [HB.out]
            exact ⟨rfl, HR.out⟩
      | succ m =>
        rw [riseB_succ hlt] at hok
        have hm2 : m < l.length := by omega
        have hix2 := Sl.at HL Try.underlying22 Try.sizeOf50 m hm2
        have d0 := HL.cell Acc.len m hm2 0 _ rfl
        simp only [Nat.add_zero] at d0
        rw [show (((m + 1 : Nat)) : Int) = (m : Int) + 1 from by omega] at hix
        have e2 : decide ((0 : Int) < (m : Int) + 1) = true := decide_eq_true (by omega)
        have hw1 : IntKind.i64.wrap (m : Int) = (m : Int) := IntWalk.i64_in _ (by omega)
        have HS : Hid (∀ w', Keeps wr.drew w' → w'.cell? ⟨b, o + (m + 1) * 4, none⟩ = some (.int .i64 l[m + 1].code) ∧ w'.cell? ⟨b, o + (m + 1) * 4 + 1, none⟩ = some (.int .i64 l[m + 1].kind) ∧ w'.cell? ⟨b, o + (m + 1) * 4 + 2, none⟩ = some (.int .i64 l[m + 1].basis) ∧ w'.cell? ⟨b, o + (m + 1) * 4 + 3, none⟩ = some (.int .i64 l[m + 1].parent) ∧ w'.cell? ⟨b, o + m * 4, none⟩ = some (.int .i64 l[m].code)) := Lib.hid (fun w' h => have h := (Keeps.refl wr).drew.trans h; ⟨h.cell c0, h.cell c1, h.cell c2, h.cell c3, h.cell d0⟩)
        clear HL c0 c1 c2 c3 d0
        by_cases hr : l[m].code < l[m + 1].code
        · have e1 : decide (l[m + 1].code ≤ l[m].code) = false := decide_eq_false (by omega)
          rw [decide_eq_true hr, Bool.and_true] at hok
          have HOK := Lib.hid hok
          clear hok hr
          go_wp2_with fail
          refine wp_region_steps (A := ?_) Keeps [some 15, some 16, some 17, some 18, some 19, some 20, some 21, some 22, some 23, some 24, some 25, some 26, some 27, some 28, some 29, some 30, some 31, some 32, some 33, some 34, some 35, some 36, some 37, some 38, some 39, some 40, some 41, some 42, some 43, some 44, some 45, some 46, some 47, some 48, some 49, some 50, some 51, some 52, some 53] [[], [], [], [1, 2], [3], [], [0, 4, 5], [6], [7], [8], [8, 9], [8, 10], [11], [11], [11, 12, 13], [11, 14], [11, 15], [11], [11], [11, 18], [11, 17, 19], [11, 20], [11, 21], [11, 16, 22], [8, 11, 23], [8, 24], [25], [26], [26], [26], [26, 28, 29], [26, 30], [26, 31], [26, 27, 32], [26, 33], [26], [26, 35], [26, 34, 36], [26, 37]] 39 (by kernel_rfl) (by kernel_rfl) (by kernel_rfl) (by kernel_rfl) (by kernel_rfl) (by kernel_rfl) Keeps.refl (fun _ _ _ => Keeps.trans) ?_ ?_
          rotate_left
          · intro f; simp only [putL, Act.put, List.setIfInBounds_toArray, List.set_cons_zero, List.set_cons_succ, Nat.zero_add, Nat.reduceAdd]; exact rfl
          refine Steps.pure (v := ?_) Keeps.refl rfl (fun f w' hR hV => ⟨?_, ?_⟩) ?_
          rotate_left
          · (rfl)
          · (clear hV; obtain ⟨c0, c1, c2, c3, d0⟩ := HS.out _ hR; go_simp; all_goals (try with_reducible rfl))
          refine Steps.pure (v := ?_) Keeps.refl rfl (fun f w' hR hV => ⟨?_, ?_⟩) ?_
          rotate_left
          · (rfl)
          · (clear hV; obtain ⟨c0, c1, c2, c3, d0⟩ := HS.out _ hR; go_simp; all_goals (try with_reducible rfl))
          refine Steps.pure (v := ?_) Keeps.refl rfl (fun f w' hR hV => ⟨?_, ?_⟩) ?_
          rotate_left
          · (rfl)
          · (clear hV; obtain ⟨c0, c1, c2, c3, d0⟩ := HS.out _ hR; go_simp; all_goals (try with_reducible rfl))
          refine Steps.pure (v := ?_) Keeps.refl rfl (fun f w' hR hV => ⟨?_, ?_⟩) ?_
          rotate_left
          · (rfl)
          · (obtain ⟨h1, h2, _⟩ := hV; replace h1 : f 1 = _ := h1; replace h2 : f 2 = _ := h2; obtain ⟨c0, c1, c2, c3, d0⟩ := HS.out _ hR; go_simp; all_goals (try with_reducible rfl))
          refine Steps.pure (v := ?_) Keeps.refl rfl (fun f w' hR hV => ⟨?_, ?_⟩) ?_
          rotate_left
          · (rfl)
          · (obtain ⟨h3, _⟩ := hV; replace h3 : f 3 = _ := h3; obtain ⟨c0, c1, c2, c3, d0⟩ := HS.out _ hR; go_simp; all_goals (try with_reducible rfl))
          refine Steps.pure (v := ?_) Keeps.refl rfl (fun f w' hR hV => ⟨?_, ?_⟩) ?_
          rotate_left
          · (rfl)
          · (clear hV; obtain ⟨c0, c1, c2, c3, d0⟩ := HS.out _ hR; go_simp; all_goals (try with_reducible rfl))
          refine Steps.call (fun _ v => v = .bool pr) rfl (fun _ _ _ _ h => h) (fun f w' hR hV => ⟨?_, ?_⟩) ?_
          · (rfl)
          · (obtain ⟨h0, h4, h5, _⟩ := hV; replace h0 : f 0 = _ := h0; replace h4 : f 4 = _ := h4; replace h5 : f 5 = _ := h5; obtain ⟨c0, c1, c2, c3, d0⟩ := HS.out _ hR; go_simp; go_at_call 39; refine (HP.out _ (HH.out.keeps (HW.out.drew.trans hR))).mono ?_; rintro e w2 ⟨rfl, hk2⟩; exact StepPost.of _ rfl rfl hk2)
          refine Steps.pure (v := ?_) Keeps.refl rfl (fun f w' hR hV => ⟨?_, ?_⟩) ?_
          rotate_left
          · (rfl)
          · (obtain ⟨h6, _⟩ := hV; replace h6 : f 6 = _ := h6; obtain ⟨c0, c1, c2, c3, d0⟩ := HS.out _ hR; go_simp; all_goals (try with_reducible rfl))
          refine Steps.pure (v := ?_) Keeps.refl rfl (fun f w' hR hV => ⟨?_, ?_⟩) ?_
          rotate_left
          · (rfl)
          · (obtain ⟨h7, _⟩ := hV; replace h7 : f 7 = _ := h7; obtain ⟨c0, c1, c2, c3, d0⟩ := HS.out _ hR; go_simp; all_goals (try with_reducible rfl))
          cases pr
          all_goals first
            | (refine Steps.pure (v := ?_) Keeps.refl rfl (fun f w' hR hV => ⟨?_, ?_⟩) ?_
               rotate_left
               · (obtain ⟨h8, _⟩ := hV; replace h8 : f 8 = _ := h8; exact want_yes (t := 23) rfl (by kernel_rfl) rfl h8)
               · (obtain ⟨h8, _⟩ := hV; replace h8 : f 8 = _ := h8; obtain ⟨c0, c1, c2, c3, d0⟩ := HS.out _ hR; go_simp; all_goals (try with_reducible rfl)))
            | (refine Steps.skip rfl (fun f w' hR hV => ?_) ?_
               · (obtain ⟨h8, _⟩ := hV; replace h8 : f 8 = _ := h8; first | exact want_no (t := 23) rfl (by kernel_rfl) rfl h8 rfl | exact want_undef (t := 23) rfl (by kernel_rfl) rfl h8))
          all_goals first
            | (refine Steps.pure (v := ?_) Keeps.refl rfl (fun f w' hR hV => ⟨?_, ?_⟩) ?_
               rotate_left
               · (obtain ⟨h8, _, _⟩ := hV; replace h8 : f 8 = _ := h8; exact want_yes (t := 23) rfl (by kernel_rfl) rfl h8)
               · (obtain ⟨h8, h9, _⟩ := hV; replace h8 : f 8 = _ := h8; replace h9 : f 9 = _ := h9; obtain ⟨c0, c1, c2, c3, d0⟩ := HS.out _ hR; go_simp; all_goals (try with_reducible rfl)))
            | (refine Steps.skip rfl (fun f w' hR hV => ?_) ?_
               · (obtain ⟨h8, _, _⟩ := hV; replace h8 : f 8 = _ := h8; first | exact want_no (t := 23) rfl (by kernel_rfl) rfl h8 rfl | exact want_undef (t := 23) rfl (by kernel_rfl) rfl h8))
          all_goals first
            | (refine Steps.pure (v := ?_) Keeps.refl rfl (fun f w' hR hV => ⟨?_, ?_⟩) ?_
               rotate_left
               · (obtain ⟨h8, _, _⟩ := hV; replace h8 : f 8 = _ := h8; exact want_yes (t := 23) rfl (by kernel_rfl) rfl h8)
               · (obtain ⟨h8, h10, _⟩ := hV; replace h8 : f 8 = _ := h8; replace h10 : f 10 = _ := h10; obtain ⟨c0, c1, c2, c3, d0⟩ := HS.out _ hR; go_simp; all_goals (try with_reducible rfl)))
            | (refine Steps.skip rfl (fun f w' hR hV => ?_) ?_
               · (obtain ⟨h8, _, _⟩ := hV; replace h8 : f 8 = _ := h8; first | exact want_no (t := 23) rfl (by kernel_rfl) rfl h8 rfl | exact want_undef (t := 23) rfl (by kernel_rfl) rfl h8))
          all_goals first
            | (refine Steps.pure (v := ?_) Keeps.refl rfl (fun f w' hR hV => ⟨?_, ?_⟩) ?_
               rotate_left
               · (obtain ⟨h11, _⟩ := hV; replace h11 : f 11 = _ := h11; exact want_yes (t := 26) rfl (by kernel_rfl) rfl h11)
               · (obtain ⟨h11, _⟩ := hV; replace h11 : f 11 = _ := h11; obtain ⟨c0, c1, c2, c3, d0⟩ := HS.out _ hR; go_simp; all_goals (try with_reducible rfl)))
            | (refine Steps.skip rfl (fun f w' hR hV => ?_) ?_
               · (obtain ⟨h11, _⟩ := hV; replace h11 : f 11 = _ := h11; first | exact want_no (t := 26) rfl (by kernel_rfl) rfl h11 rfl | exact want_undef (t := 26) rfl (by kernel_rfl) rfl h11))
          all_goals first
            | (refine Steps.pure (v := ?_) Keeps.refl rfl (fun f w' hR hV => ⟨?_, ?_⟩) ?_
               rotate_left
               · (obtain ⟨h11, _⟩ := hV; replace h11 : f 11 = _ := h11; exact want_yes (t := 26) rfl (by kernel_rfl) rfl h11)
               · (obtain ⟨h11, _⟩ := hV; replace h11 : f 11 = _ := h11; obtain ⟨c0, c1, c2, c3, d0⟩ := HS.out _ hR; go_simp; all_goals (try with_reducible rfl)))
            | (refine Steps.skip rfl (fun f w' hR hV => ?_) ?_
               · (obtain ⟨h11, _⟩ := hV; replace h11 : f 11 = _ := h11; first | exact want_no (t := 26) rfl (by kernel_rfl) rfl h11 rfl | exact want_undef (t := 26) rfl (by kernel_rfl) rfl h11))
          all_goals first
            | (refine Steps.pure (v := ?_) Keeps.refl rfl (fun f w' hR hV => ⟨?_, ?_⟩) ?_
               rotate_left
               · (obtain ⟨h11, _, _, _⟩ := hV; replace h11 : f 11 = _ := h11; exact want_yes (t := 26) rfl (by kernel_rfl) rfl h11)
               · (obtain ⟨h11, h12, h13, _⟩ := hV; replace h11 : f 11 = _ := h11; replace h12 : f 12 = _ := h12; replace h13 : f 13 = _ := h13; obtain ⟨c0, c1, c2, c3, d0⟩ := HS.out _ hR; go_simp; all_goals (try with_reducible rfl)))
            | (refine Steps.skip rfl (fun f w' hR hV => ?_) ?_
               · (obtain ⟨h11, _, _, _⟩ := hV; replace h11 : f 11 = _ := h11; first | exact want_no (t := 26) rfl (by kernel_rfl) rfl h11 rfl | exact want_undef (t := 26) rfl (by kernel_rfl) rfl h11))
          all_goals first
            | (refine Steps.pure (v := ?_) Keeps.refl rfl (fun f w' hR hV => ⟨?_, ?_⟩) ?_
               rotate_left
               · (obtain ⟨h11, _, _⟩ := hV; replace h11 : f 11 = _ := h11; exact want_yes (t := 26) rfl (by kernel_rfl) rfl h11)
               · (obtain ⟨h11, h14, _⟩ := hV; replace h11 : f 11 = _ := h11; replace h14 : f 14 = _ := h14; obtain ⟨c0, c1, c2, c3, d0⟩ := HS.out _ hR; go_simp; all_goals (try with_reducible rfl)))
            | (refine Steps.skip rfl (fun f w' hR hV => ?_) ?_
               · (obtain ⟨h11, _, _⟩ := hV; replace h11 : f 11 = _ := h11; first | exact want_no (t := 26) rfl (by kernel_rfl) rfl h11 rfl | exact want_undef (t := 26) rfl (by kernel_rfl) rfl h11))
          all_goals first
            | (refine Steps.pure (v := ?_) Keeps.refl rfl (fun f w' hR hV => ⟨?_, ?_⟩) ?_
               rotate_left
               · (obtain ⟨h11, _, _⟩ := hV; replace h11 : f 11 = _ := h11; exact want_yes (t := 26) rfl (by kernel_rfl) rfl h11)
               · (obtain ⟨h11, h15, _⟩ := hV; replace h11 : f 11 = _ := h11; replace h15 : f 15 = _ := h15; obtain ⟨c0, c1, c2, c3, d0⟩ := HS.out _ hR; go_simp; all_goals (try with_reducible rfl)))
            | (refine Steps.skip rfl (fun f w' hR hV => ?_) ?_
               · (obtain ⟨h11, _, _⟩ := hV; replace h11 : f 11 = _ := h11; first | exact want_no (t := 26) rfl (by kernel_rfl) rfl h11 rfl | exact want_undef (t := 26) rfl (by kernel_rfl) rfl h11))
          all_goals first
            | (refine Steps.pure (v := ?_) Keeps.refl rfl (fun f w' hR hV => ⟨?_, ?_⟩) ?_
               rotate_left
               · (obtain ⟨h11, _⟩ := hV; replace h11 : f 11 = _ := h11; exact want_yes (t := 26) rfl (by kernel_rfl) rfl h11)
               · (obtain ⟨h11, _⟩ := hV; replace h11 : f 11 = _ := h11; obtain ⟨c0, c1, c2, c3, d0⟩ := HS.out _ hR; go_simp; all_goals (try with_reducible rfl)))
            | (refine Steps.skip rfl (fun f w' hR hV => ?_) ?_
               · (obtain ⟨h11, _⟩ := hV; replace h11 : f 11 = _ := h11; first | exact want_no (t := 26) rfl (by kernel_rfl) rfl h11 rfl | exact want_undef (t := 26) rfl (by kernel_rfl) rfl h11))
          all_goals first
            | (refine Steps.pure (v := ?_) Keeps.refl rfl (fun f w' hR hV => ⟨?_, ?_⟩) ?_
               rotate_left
               · (obtain ⟨h11, _⟩ := hV; replace h11 : f 11 = _ := h11; exact want_yes (t := 26) rfl (by kernel_rfl) rfl h11)
               · (obtain ⟨h11, _⟩ := hV; replace h11 : f 11 = _ := h11; obtain ⟨c0, c1, c2, c3, d0⟩ := HS.out _ hR; go_simp; all_goals (try with_reducible rfl)))
            | (refine Steps.skip rfl (fun f w' hR hV => ?_) ?_
               · (obtain ⟨h11, _⟩ := hV; replace h11 : f 11 = _ := h11; first | exact want_no (t := 26) rfl (by kernel_rfl) rfl h11 rfl | exact want_undef (t := 26) rfl (by kernel_rfl) rfl h11))
          all_goals first
            | (refine Steps.pure (v := ?_) Keeps.refl rfl (fun f w' hR hV => ⟨?_, ?_⟩) ?_
               rotate_left
               · (obtain ⟨h11, _, _⟩ := hV; replace h11 : f 11 = _ := h11; exact want_yes (t := 26) rfl (by kernel_rfl) rfl h11)
               · (obtain ⟨h11, h18, _⟩ := hV; replace h11 : f 11 = _ := h11; replace h18 : f 18 = _ := h18; obtain ⟨c0, c1, c2, c3, d0⟩ := HS.out _ hR; go_simp; all_goals (try with_reducible rfl)))
            | (refine Steps.skip rfl (fun f w' hR hV => ?_) ?_
               · (obtain ⟨h11, _, _⟩ := hV; replace h11 : f 11 = _ := h11; first | exact want_no (t := 26) rfl (by kernel_rfl) rfl h11 rfl | exact want_undef (t := 26) rfl (by kernel_rfl) rfl h11))
          all_goals first
            | (refine Steps.pure (v := ?_) Keeps.refl rfl (fun f w' hR hV => ⟨?_, ?_⟩) ?_
               rotate_left
               · (obtain ⟨h11, _, _, _⟩ := hV; replace h11 : f 11 = _ := h11; exact want_yes (t := 26) rfl (by kernel_rfl) rfl h11)
               · (obtain ⟨h11, h17, h19, _⟩ := hV; replace h11 : f 11 = _ := h11; replace h17 : f 17 = _ := h17; replace h19 : f 19 = _ := h19; obtain ⟨c0, c1, c2, c3, d0⟩ := HS.out _ hR; go_simp; all_goals (try with_reducible rfl)))
            | (refine Steps.skip rfl (fun f w' hR hV => ?_) ?_
               · (obtain ⟨h11, _, _, _⟩ := hV; replace h11 : f 11 = _ := h11; first | exact want_no (t := 26) rfl (by kernel_rfl) rfl h11 rfl | exact want_undef (t := 26) rfl (by kernel_rfl) rfl h11))
          all_goals first
            | (refine Steps.pure (v := ?_) Keeps.refl rfl (fun f w' hR hV => ⟨?_, ?_⟩) ?_
               rotate_left
               · (obtain ⟨h11, _, _⟩ := hV; replace h11 : f 11 = _ := h11; exact want_yes (t := 26) rfl (by kernel_rfl) rfl h11)
               · (obtain ⟨h11, h20, _⟩ := hV; replace h11 : f 11 = _ := h11; replace h20 : f 20 = _ := h20; obtain ⟨c0, c1, c2, c3, d0⟩ := HS.out _ hR; go_simp; all_goals (try with_reducible rfl)))
            | (refine Steps.skip rfl (fun f w' hR hV => ?_) ?_
               · (obtain ⟨h11, _, _⟩ := hV; replace h11 : f 11 = _ := h11; first | exact want_no (t := 26) rfl (by kernel_rfl) rfl h11 rfl | exact want_undef (t := 26) rfl (by kernel_rfl) rfl h11))
          all_goals first
            | (refine Steps.pure (v := ?_) Keeps.refl rfl (fun f w' hR hV => ⟨?_, ?_⟩) ?_
               rotate_left
               · (obtain ⟨h11, _, _⟩ := hV; replace h11 : f 11 = _ := h11; exact want_yes (t := 26) rfl (by kernel_rfl) rfl h11)
               · (obtain ⟨h11, h21, _⟩ := hV; replace h11 : f 11 = _ := h11; replace h21 : f 21 = _ := h21; obtain ⟨c0, c1, c2, c3, d0⟩ := HS.out _ hR; go_simp; all_goals (try with_reducible rfl)))
            | (refine Steps.skip rfl (fun f w' hR hV => ?_) ?_
               · (obtain ⟨h11, _, _⟩ := hV; replace h11 : f 11 = _ := h11; first | exact want_no (t := 26) rfl (by kernel_rfl) rfl h11 rfl | exact want_undef (t := 26) rfl (by kernel_rfl) rfl h11))
          all_goals first
            | (refine Steps.pure (v := ?_) Keeps.refl rfl (fun f w' hR hV => ⟨?_, ?_⟩) ?_
               rotate_left
               · (obtain ⟨h11, _, _, _⟩ := hV; replace h11 : f 11 = _ := h11; exact want_yes (t := 26) rfl (by kernel_rfl) rfl h11)
               · (obtain ⟨h11, h16, h22, _⟩ := hV; replace h11 : f 11 = _ := h11; replace h16 : f 16 = _ := h16; replace h22 : f 22 = _ := h22; obtain ⟨c0, c1, c2, c3, d0⟩ := HS.out _ hR; go_simp; all_goals (try with_reducible rfl)))
            | (refine Steps.skip rfl (fun f w' hR hV => ?_) ?_
               · (obtain ⟨h11, _, _, _⟩ := hV; replace h11 : f 11 = _ := h11; first | exact want_no (t := 26) rfl (by kernel_rfl) rfl h11 rfl | exact want_undef (t := 26) rfl (by kernel_rfl) rfl h11))
          all_goals first
            | (refine Steps.pure (v := ?_) Keeps.refl rfl (fun f w' hR hV => ⟨?_, ?_⟩) ?_
               rotate_left
               · (obtain ⟨h8, _, _, _⟩ := hV; replace h8 : f 8 = _ := h8; exact want_yes (t := 23) rfl (by kernel_rfl) rfl h8)
               · (obtain ⟨h8, h11, h23, _⟩ := hV; replace h8 : f 8 = _ := h8; replace h11 : f 11 = _ := h11; replace h23 : f 23 = _ := h23; obtain ⟨c0, c1, c2, c3, d0⟩ := HS.out _ hR; go_simp; all_goals (try with_reducible rfl)))
            | (refine Steps.skip rfl (fun f w' hR hV => ?_) ?_
               · (obtain ⟨h8, _, _, _⟩ := hV; replace h8 : f 8 = _ := h8; first | exact want_no (t := 23) rfl (by kernel_rfl) rfl h8 rfl | exact want_undef (t := 23) rfl (by kernel_rfl) rfl h8))
          all_goals (
            refine Steps.pure (v := ?_) Keeps.refl rfl (fun f w' hR hV => ⟨?_, ?_⟩) ?_
            rotate_left
            · (rfl)
            · (obtain ⟨h8, h24, _⟩ := hV; replace h8 : f 8 = _ := h8; replace h24 : f 24 = _ := h24; obtain ⟨c0, c1, c2, c3, d0⟩ := HS.out _ hR; go_simp; all_goals (try with_reducible rfl)))
          all_goals (
            refine Steps.pure (v := ?_) Keeps.refl rfl (fun f w' hR hV => ⟨?_, ?_⟩) ?_
            rotate_left
            · (rfl)
            · (obtain ⟨h25, _⟩ := hV; replace h25 : f 25 = _ := h25; obtain ⟨c0, c1, c2, c3, d0⟩ := HS.out _ hR; go_simp; all_goals (try with_reducible rfl)))
          all_goals first
            | (refine Steps.pure (v := ?_) Keeps.refl rfl (fun f w' hR hV => ⟨?_, ?_⟩) ?_
               rotate_left
               · (obtain ⟨h26, _⟩ := hV; replace h26 : f 26 = _ := h26; exact want_yes (t := 41) rfl (by kernel_rfl) rfl h26)
               · (obtain ⟨h26, _⟩ := hV; replace h26 : f 26 = _ := h26; obtain ⟨c0, c1, c2, c3, d0⟩ := HS.out _ hR; go_simp; all_goals (try with_reducible rfl)))
            | (refine Steps.skip rfl (fun f w' hR hV => ?_) ?_
               · (obtain ⟨h26, _⟩ := hV; replace h26 : f 26 = _ := h26; first | exact want_no (t := 41) rfl (by kernel_rfl) rfl h26 rfl | exact want_undef (t := 41) rfl (by kernel_rfl) rfl h26))
          all_goals first
            | (refine Steps.pure (v := ?_) Keeps.refl rfl (fun f w' hR hV => ⟨?_, ?_⟩) ?_
               rotate_left
               · (obtain ⟨h26, _⟩ := hV; replace h26 : f 26 = _ := h26; exact want_yes (t := 41) rfl (by kernel_rfl) rfl h26)
               · (obtain ⟨h26, _⟩ := hV; replace h26 : f 26 = _ := h26; obtain ⟨c0, c1, c2, c3, d0⟩ := HS.out _ hR; go_simp; all_goals (try with_reducible rfl)))
            | (refine Steps.skip rfl (fun f w' hR hV => ?_) ?_
               · (obtain ⟨h26, _⟩ := hV; replace h26 : f 26 = _ := h26; first | exact want_no (t := 41) rfl (by kernel_rfl) rfl h26 rfl | exact want_undef (t := 41) rfl (by kernel_rfl) rfl h26))
          all_goals first
            | (refine Steps.pure (v := ?_) Keeps.refl rfl (fun f w' hR hV => ⟨?_, ?_⟩) ?_
               rotate_left
               · (obtain ⟨h26, _⟩ := hV; replace h26 : f 26 = _ := h26; exact want_yes (t := 41) rfl (by kernel_rfl) rfl h26)
               · (obtain ⟨h26, _⟩ := hV; replace h26 : f 26 = _ := h26; obtain ⟨c0, c1, c2, c3, d0⟩ := HS.out _ hR; go_simp; all_goals (try with_reducible rfl)))
            | (refine Steps.skip rfl (fun f w' hR hV => ?_) ?_
               · (obtain ⟨h26, _⟩ := hV; replace h26 : f 26 = _ := h26; first | exact want_no (t := 41) rfl (by kernel_rfl) rfl h26 rfl | exact want_undef (t := 41) rfl (by kernel_rfl) rfl h26))
          all_goals first
            | (refine Steps.pure (v := ?_) Keeps.refl rfl (fun f w' hR hV => ⟨?_, ?_⟩) ?_
               rotate_left
               · (obtain ⟨h26, _, _, _⟩ := hV; replace h26 : f 26 = _ := h26; exact want_yes (t := 41) rfl (by kernel_rfl) rfl h26)
               · (obtain ⟨h26, h28, h29, _⟩ := hV; replace h26 : f 26 = _ := h26; replace h28 : f 28 = _ := h28; replace h29 : f 29 = _ := h29; obtain ⟨c0, c1, c2, c3, d0⟩ := HS.out _ hR; go_simp; all_goals (try with_reducible rfl)))
            | (refine Steps.skip rfl (fun f w' hR hV => ?_) ?_
               · (obtain ⟨h26, _, _, _⟩ := hV; replace h26 : f 26 = _ := h26; first | exact want_no (t := 41) rfl (by kernel_rfl) rfl h26 rfl | exact want_undef (t := 41) rfl (by kernel_rfl) rfl h26))
          all_goals first
            | (refine Steps.pure (v := ?_) Keeps.refl rfl (fun f w' hR hV => ⟨?_, ?_⟩) ?_
               rotate_left
               · (obtain ⟨h26, _, _⟩ := hV; replace h26 : f 26 = _ := h26; exact want_yes (t := 41) rfl (by kernel_rfl) rfl h26)
               · (obtain ⟨h26, h30, _⟩ := hV; replace h26 : f 26 = _ := h26; replace h30 : f 30 = _ := h30; obtain ⟨c0, c1, c2, c3, d0⟩ := HS.out _ hR; go_simp; all_goals (try with_reducible rfl)))
            | (refine Steps.skip rfl (fun f w' hR hV => ?_) ?_
               · (obtain ⟨h26, _, _⟩ := hV; replace h26 : f 26 = _ := h26; first | exact want_no (t := 41) rfl (by kernel_rfl) rfl h26 rfl | exact want_undef (t := 41) rfl (by kernel_rfl) rfl h26))
          all_goals first
            | (refine Steps.pure (v := ?_) Keeps.refl rfl (fun f w' hR hV => ⟨?_, ?_⟩) ?_
               rotate_left
               · (obtain ⟨h26, _, _⟩ := hV; replace h26 : f 26 = _ := h26; exact want_yes (t := 41) rfl (by kernel_rfl) rfl h26)
               · (obtain ⟨h26, h31, _⟩ := hV; replace h26 : f 26 = _ := h26; replace h31 : f 31 = _ := h31; obtain ⟨c0, c1, c2, c3, d0⟩ := HS.out _ hR; go_simp; all_goals (try with_reducible rfl)))
            | (refine Steps.skip rfl (fun f w' hR hV => ?_) ?_
               · (obtain ⟨h26, _, _⟩ := hV; replace h26 : f 26 = _ := h26; first | exact want_no (t := 41) rfl (by kernel_rfl) rfl h26 rfl | exact want_undef (t := 41) rfl (by kernel_rfl) rfl h26))
          all_goals first
            | (refine Steps.call (fun _ v => ∃ ao2 cap2, v = .slice ao2 n cap2) rfl (fun _ _ _ _ h => h) (fun f w' hR hV => ⟨?_, ?_⟩) ?_
               · (obtain ⟨h26, _, _, _⟩ := hV; replace h26 : f 26 = _ := h26; exact want_yes (t := 41) rfl (by kernel_rfl) rfl h26)
               · (obtain ⟨h26, h27, h32, _⟩ := hV; replace h26 : f 26 = _ := h26; replace h27 : f 27 = _ := h27; replace h32 : f 32 = _ := h32; obtain ⟨c0, c1, c2, c3, d0⟩ := HS.out _ hR; go_simp; go_at_call 40; refine (HC.out _ (HH.out.keeps (HW.out.drew.trans hR))).mono ?_; rintro e w2 ⟨ao2, cap2, rfl, hk2⟩; exact StepPost.of _ rfl ⟨_, _, rfl⟩ hk2))
            | (refine Steps.skip rfl (fun f w' hR hV => ?_) ?_
               · (obtain ⟨h26, _, _, _⟩ := hV; replace h26 : f 26 = _ := h26; first | exact want_no (t := 41) rfl (by kernel_rfl) rfl h26 rfl | exact want_undef (t := 41) rfl (by kernel_rfl) rfl h26))
          all_goals first
            | (refine Steps.pure (v := ?_) Keeps.refl rfl (fun f w' hR hV => ⟨?_, ?_⟩) ?_
               rotate_left
               · (obtain ⟨h26, _, _⟩ := hV; replace h26 : f 26 = _ := h26; exact want_yes (t := 41) rfl (by kernel_rfl) rfl h26)
               · (obtain ⟨h26, h33, _⟩ := hV; replace h26 : f 26 = _ := h26; replace h33 : ∃ ao2 cap2, f 33 = .slice ao2 n cap2 := h33; obtain ⟨ao2, cap2, h33⟩ := h33; go_simp; all_goals (try with_reducible rfl)))
            | (refine Steps.skip rfl (fun f w' hR hV => ?_) ?_
               · (obtain ⟨h26, _, _⟩ := hV; replace h26 : f 26 = _ := h26; first | exact want_no (t := 41) rfl (by kernel_rfl) rfl h26 rfl | exact want_undef (t := 41) rfl (by kernel_rfl) rfl h26))
          all_goals first
            | (refine Steps.pure (v := ?_) Keeps.refl rfl (fun f w' hR hV => ⟨?_, ?_⟩) ?_
               rotate_left
               · (obtain ⟨h26, _⟩ := hV; replace h26 : f 26 = _ := h26; exact want_yes (t := 41) rfl (by kernel_rfl) rfl h26)
               · (obtain ⟨h26, _⟩ := hV; replace h26 : f 26 = _ := h26; obtain ⟨c0, c1, c2, c3, d0⟩ := HS.out _ hR; go_simp; all_goals (try with_reducible rfl)))
            | (refine Steps.skip rfl (fun f w' hR hV => ?_) ?_
               · (obtain ⟨h26, _⟩ := hV; replace h26 : f 26 = _ := h26; first | exact want_no (t := 41) rfl (by kernel_rfl) rfl h26 rfl | exact want_undef (t := 41) rfl (by kernel_rfl) rfl h26))
          all_goals first
            | (refine Steps.pure (v := ?_) Keeps.refl rfl (fun f w' hR hV => ⟨?_, ?_⟩) ?_
               rotate_left
               · (obtain ⟨h26, _, _⟩ := hV; replace h26 : f 26 = _ := h26; exact want_yes (t := 41) rfl (by kernel_rfl) rfl h26)
               · (obtain ⟨h26, h35, _⟩ := hV; replace h26 : f 26 = _ := h26; replace h35 : f 35 = _ := h35; obtain ⟨c0, c1, c2, c3, d0⟩ := HS.out _ hR; go_simp; all_goals (try with_reducible rfl)))
            | (refine Steps.skip rfl (fun f w' hR hV => ?_) ?_
               · (obtain ⟨h26, _, _⟩ := hV; replace h26 : f 26 = _ := h26; first | exact want_no (t := 41) rfl (by kernel_rfl) rfl h26 rfl | exact want_undef (t := 41) rfl (by kernel_rfl) rfl h26))
          all_goals first
            | (refine Steps.pure (v := ?_) Keeps.refl rfl (fun f w' hR hV => ⟨?_, ?_⟩) ?_
               rotate_left
               · (obtain ⟨h26, _, _, _⟩ := hV; replace h26 : f 26 = _ := h26; exact want_yes (t := 41) rfl (by kernel_rfl) rfl h26)
               · (obtain ⟨h26, h34, h36, _⟩ := hV; replace h26 : f 26 = _ := h26; replace h34 : f 34 = _ := h34; replace h36 : f 36 = _ := h36; obtain ⟨c0, c1, c2, c3, d0⟩ := HS.out _ hR; go_simp; all_goals (try with_reducible rfl)))
            | (refine Steps.skip rfl (fun f w' hR hV => ?_) ?_
               · (obtain ⟨h26, _, _, _⟩ := hV; replace h26 : f 26 = _ := h26; first | exact want_no (t := 41) rfl (by kernel_rfl) rfl h26 rfl | exact want_undef (t := 41) rfl (by kernel_rfl) rfl h26))
          all_goals (
            refine Steps.pure (v := ?_) Keeps.refl rfl (fun f w' hR hV => ⟨?_, ?_⟩) ?_
            rotate_left
            · (rfl)
            · (obtain ⟨h26, h37, _⟩ := hV; replace h26 : f 26 = _ := h26; replace h37 : f 37 = _ := h37; obtain ⟨c0, c1, c2, c3, d0⟩ := HS.out _ hR; go_simp; all_goals (try with_reducible rfl)))
          all_goals (refine Steps.done [38] (by kernel_rfl) rfl (fun f wq hR hV => ?_); obtain ⟨h38, _⟩ := hV; replace h38 : f 38 = _ := h38; simp only [h38])
          all_goals (have HR := Lib.hid (HW.out.drew.trans hR); clear hR)
          · have HB := Lib.hid (validRB_bad hlt (HOK.out.trans (Bool.false_and _)))
            go_wp2
            go_ret
            rw [HB.out]
            exact ⟨rfl, HR.out⟩
          · by_cases hc : n ≤ l.length
            · have hc' : decide ((l.length : Int) < (n : Int)) = false := decide_eq_false (by omega)
              go_wp2
              go_roundw
              case rel => exact ⟨m + 1 + 1, by omega, by go_num, Lib.hid (fun j hj => by
                rcases Nat.lt_succ_iff_lt_or_eq.1 hj with h | rfl
                · exact HN.out j h
                · exact HOK.out.trans (by rw [decide_eq_true hc]; rfl)), HR⟩
              case measure => simp [intOf]; omega
            · have hc' : decide ((l.length : Int) < (n : Int)) = true := decide_eq_true (by omega)
              have HB := Lib.hid (validRB_bad hlt (by rw [HOK.out, decide_eq_false hc]; rfl))
              go_wp2
              go_ret
              rw [HB.out]
              exact ⟨rfl, HR.out⟩
        · have e1 : decide (l[m + 1].code ≤ l[m].code) = true := decide_eq_true (by omega)
          rw [decide_eq_false hr, Bool.and_false, Bool.false_and] at hok
          have HB := Lib.hid (validRB_bad hlt hok)
          clear hok hr
          go_wp2_with fail
          refine wp_region_steps (A := ?_) Keeps [some 15, some 16, some 17, some 18, some 19, some 20, some 21, some 22, some 23, some 24, some 25, some 26, some 27, some 28, some 29, some 30, some 31, some 32, some 33, some 34, some 35, some 36, some 37, some 38, some 39, some 40, some 41, some 42, some 43, some 44, some 45, some 46, some 47, some 48, some 49, some 50, some 51, some 52, some 53] [[], [], [], [1, 2], [3], [], [0, 4, 5], [6], [7], [8], [8, 9], [8, 10], [11], [11], [11, 12, 13], [11, 14], [11, 15], [11], [11], [11, 18], [11, 17, 19], [11, 20], [11, 21], [11, 16, 22], [8, 11, 23], [8, 24], [25], [26], [26], [26], [26, 28, 29], [26, 30], [26, 31], [26, 27, 32], [26, 33], [26], [26, 35], [26, 34, 36], [26, 37]] 39 (by kernel_rfl) (by kernel_rfl) (by kernel_rfl) (by kernel_rfl) (by kernel_rfl) (by kernel_rfl) Keeps.refl (fun _ _ _ => Keeps.trans) ?_ ?_
          rotate_left
          · intro f; simp only [putL, Act.put, List.setIfInBounds_toArray, List.set_cons_zero, List.set_cons_succ, Nat.zero_add, Nat.reduceAdd]; exact rfl
          refine Steps.pure (v := ?_) Keeps.refl rfl (fun f w' hR hV => ⟨?_, ?_⟩) ?_
          rotate_left
          · (rfl)
          · (clear hV; obtain ⟨c0, c1, c2, c3, d0⟩ := HS.out _ hR; go_simp; all_goals (try with_reducible rfl))
          refine Steps.pure (v := ?_) Keeps.refl rfl (fun f w' hR hV => ⟨?_, ?_⟩) ?_
          rotate_left
          · (rfl)
          · (clear hV; obtain ⟨c0, c1, c2, c3, d0⟩ := HS.out _ hR; go_simp; all_goals (try with_reducible rfl))
          refine Steps.pure (v := ?_) Keeps.refl rfl (fun f w' hR hV => ⟨?_, ?_⟩) ?_
          rotate_left
          · (rfl)
          · (clear hV; obtain ⟨c0, c1, c2, c3, d0⟩ := HS.out _ hR; go_simp; all_goals (try with_reducible rfl))
          refine Steps.pure (v := ?_) Keeps.refl rfl (fun f w' hR hV => ⟨?_, ?_⟩) ?_
          rotate_left
          · (rfl)
          · (obtain ⟨h1, h2, _⟩ := hV; replace h1 : f 1 = _ := h1; replace h2 : f 2 = _ := h2; obtain ⟨c0, c1, c2, c3, d0⟩ := HS.out _ hR; go_simp; all_goals (try with_reducible rfl))
          refine Steps.pure (v := ?_) Keeps.refl rfl (fun f w' hR hV => ⟨?_, ?_⟩) ?_
          rotate_left
          · (rfl)
          · (obtain ⟨h3, _⟩ := hV; replace h3 : f 3 = _ := h3; obtain ⟨c0, c1, c2, c3, d0⟩ := HS.out _ hR; go_simp; all_goals (try with_reducible rfl))
          refine Steps.pure (v := ?_) Keeps.refl rfl (fun f w' hR hV => ⟨?_, ?_⟩) ?_
          rotate_left
          · (rfl)
          · (clear hV; obtain ⟨c0, c1, c2, c3, d0⟩ := HS.out _ hR; go_simp; all_goals (try with_reducible rfl))
          refine Steps.call (fun _ v => v = .bool pr) rfl (fun _ _ _ _ h => h) (fun f w' hR hV => ⟨?_, ?_⟩) ?_
          · (rfl)
          · (obtain ⟨h0, h4, h5, _⟩ := hV; replace h0 : f 0 = _ := h0; replace h4 : f 4 = _ := h4; replace h5 : f 5 = _ := h5; obtain ⟨c0, c1, c2, c3, d0⟩ := HS.out _ hR; go_simp; go_at_call 39; refine (HP.out _ (HH.out.keeps (HW.out.drew.trans hR))).mono ?_; rintro e w2 ⟨rfl, hk2⟩; exact StepPost.of _ rfl rfl hk2)
          refine Steps.pure (v := ?_) Keeps.refl rfl (fun f w' hR hV => ⟨?_, ?_⟩) ?_
          rotate_left
          · (rfl)
          · (obtain ⟨h6, _⟩ := hV; replace h6 : f 6 = _ := h6; obtain ⟨c0, c1, c2, c3, d0⟩ := HS.out _ hR; go_simp; all_goals (try with_reducible rfl))
          refine Steps.pure (v := ?_) Keeps.refl rfl (fun f w' hR hV => ⟨?_, ?_⟩) ?_
          rotate_left
          · (rfl)
          · (obtain ⟨h7, _⟩ := hV; replace h7 : f 7 = _ := h7; obtain ⟨c0, c1, c2, c3, d0⟩ := HS.out _ hR; go_simp; all_goals (try with_reducible rfl))
          cases pr
          all_goals first
            | (refine Steps.pure (v := ?_) Keeps.refl rfl (fun f w' hR hV => ⟨?_, ?_⟩) ?_
               rotate_left
               · (obtain ⟨h8, _⟩ := hV; replace h8 : f 8 = _ := h8; exact want_yes (t := 23) rfl (by kernel_rfl) rfl h8)
               · (obtain ⟨h8, _⟩ := hV; replace h8 : f 8 = _ := h8; obtain ⟨c0, c1, c2, c3, d0⟩ := HS.out _ hR; go_simp; all_goals (try with_reducible rfl)))
            | (refine Steps.skip rfl (fun f w' hR hV => ?_) ?_
               · (obtain ⟨h8, _⟩ := hV; replace h8 : f 8 = _ := h8; first | exact want_no (t := 23) rfl (by kernel_rfl) rfl h8 rfl | exact want_undef (t := 23) rfl (by kernel_rfl) rfl h8))
          all_goals first
            | (refine Steps.pure (v := ?_) Keeps.refl rfl (fun f w' hR hV => ⟨?_, ?_⟩) ?_
               rotate_left
               · (obtain ⟨h8, _, _⟩ := hV; replace h8 : f 8 = _ := h8; exact want_yes (t := 23) rfl (by kernel_rfl) rfl h8)
               · (obtain ⟨h8, h9, _⟩ := hV; replace h8 : f 8 = _ := h8; replace h9 : f 9 = _ := h9; obtain ⟨c0, c1, c2, c3, d0⟩ := HS.out _ hR; go_simp; all_goals (try with_reducible rfl)))
            | (refine Steps.skip rfl (fun f w' hR hV => ?_) ?_
               · (obtain ⟨h8, _, _⟩ := hV; replace h8 : f 8 = _ := h8; first | exact want_no (t := 23) rfl (by kernel_rfl) rfl h8 rfl | exact want_undef (t := 23) rfl (by kernel_rfl) rfl h8))
          all_goals first
            | (refine Steps.pure (v := ?_) Keeps.refl rfl (fun f w' hR hV => ⟨?_, ?_⟩) ?_
               rotate_left
               · (obtain ⟨h8, _, _⟩ := hV; replace h8 : f 8 = _ := h8; exact want_yes (t := 23) rfl (by kernel_rfl) rfl h8)
               · (obtain ⟨h8, h10, _⟩ := hV; replace h8 : f 8 = _ := h8; replace h10 : f 10 = _ := h10; obtain ⟨c0, c1, c2, c3, d0⟩ := HS.out _ hR; go_simp; all_goals (try with_reducible rfl)))
            | (refine Steps.skip rfl (fun f w' hR hV => ?_) ?_
               · (obtain ⟨h8, _, _⟩ := hV; replace h8 : f 8 = _ := h8; first | exact want_no (t := 23) rfl (by kernel_rfl) rfl h8 rfl | exact want_undef (t := 23) rfl (by kernel_rfl) rfl h8))
          all_goals first
            | (refine Steps.pure (v := ?_) Keeps.refl rfl (fun f w' hR hV => ⟨?_, ?_⟩) ?_
               rotate_left
               · (obtain ⟨h11, _⟩ := hV; replace h11 : f 11 = _ := h11; exact want_yes (t := 26) rfl (by kernel_rfl) rfl h11)
               · (obtain ⟨h11, _⟩ := hV; replace h11 : f 11 = _ := h11; obtain ⟨c0, c1, c2, c3, d0⟩ := HS.out _ hR; go_simp; all_goals (try with_reducible rfl)))
            | (refine Steps.skip rfl (fun f w' hR hV => ?_) ?_
               · (obtain ⟨h11, _⟩ := hV; replace h11 : f 11 = _ := h11; first | exact want_no (t := 26) rfl (by kernel_rfl) rfl h11 rfl | exact want_undef (t := 26) rfl (by kernel_rfl) rfl h11))
          all_goals first
            | (refine Steps.pure (v := ?_) Keeps.refl rfl (fun f w' hR hV => ⟨?_, ?_⟩) ?_
               rotate_left
               · (obtain ⟨h11, _⟩ := hV; replace h11 : f 11 = _ := h11; exact want_yes (t := 26) rfl (by kernel_rfl) rfl h11)
               · (obtain ⟨h11, _⟩ := hV; replace h11 : f 11 = _ := h11; obtain ⟨c0, c1, c2, c3, d0⟩ := HS.out _ hR; go_simp; all_goals (try with_reducible rfl)))
            | (refine Steps.skip rfl (fun f w' hR hV => ?_) ?_
               · (obtain ⟨h11, _⟩ := hV; replace h11 : f 11 = _ := h11; first | exact want_no (t := 26) rfl (by kernel_rfl) rfl h11 rfl | exact want_undef (t := 26) rfl (by kernel_rfl) rfl h11))
          all_goals first
            | (refine Steps.pure (v := ?_) Keeps.refl rfl (fun f w' hR hV => ⟨?_, ?_⟩) ?_
               rotate_left
               · (obtain ⟨h11, _, _, _⟩ := hV; replace h11 : f 11 = _ := h11; exact want_yes (t := 26) rfl (by kernel_rfl) rfl h11)
               · (obtain ⟨h11, h12, h13, _⟩ := hV; replace h11 : f 11 = _ := h11; replace h12 : f 12 = _ := h12; replace h13 : f 13 = _ := h13; obtain ⟨c0, c1, c2, c3, d0⟩ := HS.out _ hR; go_simp; all_goals (try with_reducible rfl)))
            | (refine Steps.skip rfl (fun f w' hR hV => ?_) ?_
               · (obtain ⟨h11, _, _, _⟩ := hV; replace h11 : f 11 = _ := h11; first | exact want_no (t := 26) rfl (by kernel_rfl) rfl h11 rfl | exact want_undef (t := 26) rfl (by kernel_rfl) rfl h11))
          all_goals first
            | (refine Steps.pure (v := ?_) Keeps.refl rfl (fun f w' hR hV => ⟨?_, ?_⟩) ?_
               rotate_left
               · (obtain ⟨h11, _, _⟩ := hV; replace h11 : f 11 = _ := h11; exact want_yes (t := 26) rfl (by kernel_rfl) rfl h11)
               · (obtain ⟨h11, h14, _⟩ := hV; replace h11 : f 11 = _ := h11; replace h14 : f 14 = _ := h14; obtain ⟨c0, c1, c2, c3, d0⟩ := HS.out _ hR; go_simp; all_goals (try with_reducible rfl)))
            | (refine Steps.skip rfl (fun f w' hR hV => ?_) ?_
               · (obtain ⟨h11, _, _⟩ := hV; replace h11 : f 11 = _ := h11; first | exact want_no (t := 26) rfl (by kernel_rfl) rfl h11 rfl | exact want_undef (t := 26) rfl (by kernel_rfl) rfl h11))
          all_goals first
            | (refine Steps.pure (v := ?_) Keeps.refl rfl (fun f w' hR hV => ⟨?_, ?_⟩) ?_
               rotate_left
               · (obtain ⟨h11, _, _⟩ := hV; replace h11 : f 11 = _ := h11; exact want_yes (t := 26) rfl (by kernel_rfl) rfl h11)
               · (obtain ⟨h11, h15, _⟩ := hV; replace h11 : f 11 = _ := h11; replace h15 : f 15 = _ := h15; obtain ⟨c0, c1, c2, c3, d0⟩ := HS.out _ hR; go_simp; all_goals (try with_reducible rfl)))
            | (refine Steps.skip rfl (fun f w' hR hV => ?_) ?_
               · (obtain ⟨h11, _, _⟩ := hV; replace h11 : f 11 = _ := h11; first | exact want_no (t := 26) rfl (by kernel_rfl) rfl h11 rfl | exact want_undef (t := 26) rfl (by kernel_rfl) rfl h11))
          all_goals first
            | (refine Steps.pure (v := ?_) Keeps.refl rfl (fun f w' hR hV => ⟨?_, ?_⟩) ?_
               rotate_left
               · (obtain ⟨h11, _⟩ := hV; replace h11 : f 11 = _ := h11; exact want_yes (t := 26) rfl (by kernel_rfl) rfl h11)
               · (obtain ⟨h11, _⟩ := hV; replace h11 : f 11 = _ := h11; obtain ⟨c0, c1, c2, c3, d0⟩ := HS.out _ hR; go_simp; all_goals (try with_reducible rfl)))
            | (refine Steps.skip rfl (fun f w' hR hV => ?_) ?_
               · (obtain ⟨h11, _⟩ := hV; replace h11 : f 11 = _ := h11; first | exact want_no (t := 26) rfl (by kernel_rfl) rfl h11 rfl | exact want_undef (t := 26) rfl (by kernel_rfl) rfl h11))
          all_goals first
            | (refine Steps.pure (v := ?_) Keeps.refl rfl (fun f w' hR hV => ⟨?_, ?_⟩) ?_
               rotate_left
               · (obtain ⟨h11, _⟩ := hV; replace h11 : f 11 = _ := h11; exact want_yes (t := 26) rfl (by kernel_rfl) rfl h11)
               · (obtain ⟨h11, _⟩ := hV; replace h11 : f 11 = _ := h11; obtain ⟨c0, c1, c2, c3, d0⟩ := HS.out _ hR; go_simp; all_goals (try with_reducible rfl)))
            | (refine Steps.skip rfl (fun f w' hR hV => ?_) ?_
               · (obtain ⟨h11, _⟩ := hV; replace h11 : f 11 = _ := h11; first | exact want_no (t := 26) rfl (by kernel_rfl) rfl h11 rfl | exact want_undef (t := 26) rfl (by kernel_rfl) rfl h11))
          all_goals first
            | (refine Steps.pure (v := ?_) Keeps.refl rfl (fun f w' hR hV => ⟨?_, ?_⟩) ?_
               rotate_left
               · (obtain ⟨h11, _, _⟩ := hV; replace h11 : f 11 = _ := h11; exact want_yes (t := 26) rfl (by kernel_rfl) rfl h11)
               · (obtain ⟨h11, h18, _⟩ := hV; replace h11 : f 11 = _ := h11; replace h18 : f 18 = _ := h18; obtain ⟨c0, c1, c2, c3, d0⟩ := HS.out _ hR; go_simp; all_goals (try with_reducible rfl)))
            | (refine Steps.skip rfl (fun f w' hR hV => ?_) ?_
               · (obtain ⟨h11, _, _⟩ := hV; replace h11 : f 11 = _ := h11; first | exact want_no (t := 26) rfl (by kernel_rfl) rfl h11 rfl | exact want_undef (t := 26) rfl (by kernel_rfl) rfl h11))
          all_goals first
            | (refine Steps.pure (v := ?_) Keeps.refl rfl (fun f w' hR hV => ⟨?_, ?_⟩) ?_
               rotate_left
               · (obtain ⟨h11, _, _, _⟩ := hV; replace h11 : f 11 = _ := h11; exact want_yes (t := 26) rfl (by kernel_rfl) rfl h11)
               · (obtain ⟨h11, h17, h19, _⟩ := hV; replace h11 : f 11 = _ := h11; replace h17 : f 17 = _ := h17; replace h19 : f 19 = _ := h19; obtain ⟨c0, c1, c2, c3, d0⟩ := HS.out _ hR; go_simp; all_goals (try with_reducible rfl)))
            | (refine Steps.skip rfl (fun f w' hR hV => ?_) ?_
               · (obtain ⟨h11, _, _, _⟩ := hV; replace h11 : f 11 = _ := h11; first | exact want_no (t := 26) rfl (by kernel_rfl) rfl h11 rfl | exact want_undef (t := 26) rfl (by kernel_rfl) rfl h11))
          all_goals first
            | (refine Steps.pure (v := ?_) Keeps.refl rfl (fun f w' hR hV => ⟨?_, ?_⟩) ?_
               rotate_left
               · (obtain ⟨h11, _, _⟩ := hV; replace h11 : f 11 = _ := h11; exact want_yes (t := 26) rfl (by kernel_rfl) rfl h11)
               · (obtain ⟨h11, h20, _⟩ := hV; replace h11 : f 11 = _ := h11; replace h20 : f 20 = _ := h20; obtain ⟨c0, c1, c2, c3, d0⟩ := HS.out _ hR; go_simp; all_goals (try with_reducible rfl)))
            | (refine Steps.skip rfl (fun f w' hR hV => ?_) ?_
               · (obtain ⟨h11, _, _⟩ := hV; replace h11 : f 11 = _ := h11; first | exact want_no (t := 26) rfl (by kernel_rfl) rfl h11 rfl | exact want_undef (t := 26) rfl (by kernel_rfl) rfl h11))
          all_goals first
            | (refine Steps.pure (v := ?_) Keeps.refl rfl (fun f w' hR hV => ⟨?_, ?_⟩) ?_
               rotate_left
               · (obtain ⟨h11, _, _⟩ := hV; replace h11 : f 11 = _ := h11; exact want_yes (t := 26) rfl (by kernel_rfl) rfl h11)
               · (obtain ⟨h11, h21, _⟩ := hV; replace h11 : f 11 = _ := h11; replace h21 : f 21 = _ := h21; obtain ⟨c0, c1, c2, c3, d0⟩ := HS.out _ hR; go_simp; all_goals (try with_reducible rfl)))
            | (refine Steps.skip rfl (fun f w' hR hV => ?_) ?_
               · (obtain ⟨h11, _, _⟩ := hV; replace h11 : f 11 = _ := h11; first | exact want_no (t := 26) rfl (by kernel_rfl) rfl h11 rfl | exact want_undef (t := 26) rfl (by kernel_rfl) rfl h11))
          all_goals first
            | (refine Steps.pure (v := ?_) Keeps.refl rfl (fun f w' hR hV => ⟨?_, ?_⟩) ?_
               rotate_left
               · (obtain ⟨h11, _, _, _⟩ := hV; replace h11 : f 11 = _ := h11; exact want_yes (t := 26) rfl (by kernel_rfl) rfl h11)
               · (obtain ⟨h11, h16, h22, _⟩ := hV; replace h11 : f 11 = _ := h11; replace h16 : f 16 = _ := h16; replace h22 : f 22 = _ := h22; obtain ⟨c0, c1, c2, c3, d0⟩ := HS.out _ hR; go_simp; all_goals (try with_reducible rfl)))
            | (refine Steps.skip rfl (fun f w' hR hV => ?_) ?_
               · (obtain ⟨h11, _, _, _⟩ := hV; replace h11 : f 11 = _ := h11; first | exact want_no (t := 26) rfl (by kernel_rfl) rfl h11 rfl | exact want_undef (t := 26) rfl (by kernel_rfl) rfl h11))
          all_goals first
            | (refine Steps.pure (v := ?_) Keeps.refl rfl (fun f w' hR hV => ⟨?_, ?_⟩) ?_
               rotate_left
               · (obtain ⟨h8, _, _, _⟩ := hV; replace h8 : f 8 = _ := h8; exact want_yes (t := 23) rfl (by kernel_rfl) rfl h8)
               · (obtain ⟨h8, h11, h23, _⟩ := hV; replace h8 : f 8 = _ := h8; replace h11 : f 11 = _ := h11; replace h23 : f 23 = _ := h23; obtain ⟨c0, c1, c2, c3, d0⟩ := HS.out _ hR; go_simp; all_goals (try with_reducible rfl)))
            | (refine Steps.skip rfl (fun f w' hR hV => ?_) ?_
               · (obtain ⟨h8, _, _, _⟩ := hV; replace h8 : f 8 = _ := h8; first | exact want_no (t := 23) rfl (by kernel_rfl) rfl h8 rfl | exact want_undef (t := 23) rfl (by kernel_rfl) rfl h8))
          all_goals (
            refine Steps.pure (v := ?_) Keeps.refl rfl (fun f w' hR hV => ⟨?_, ?_⟩) ?_
            rotate_left
            · (rfl)
            · (obtain ⟨h8, h24, _⟩ := hV; replace h8 : f 8 = _ := h8; replace h24 : f 24 = _ := h24; obtain ⟨c0, c1, c2, c3, d0⟩ := HS.out _ hR; go_simp; all_goals (try with_reducible rfl)))
          all_goals (
            refine Steps.pure (v := ?_) Keeps.refl rfl (fun f w' hR hV => ⟨?_, ?_⟩) ?_
            rotate_left
            · (rfl)
            · (obtain ⟨h25, _⟩ := hV; replace h25 : f 25 = _ := h25; obtain ⟨c0, c1, c2, c3, d0⟩ := HS.out _ hR; go_simp; all_goals (try with_reducible rfl)))
          all_goals first
            | (refine Steps.pure (v := ?_) Keeps.refl rfl (fun f w' hR hV => ⟨?_, ?_⟩) ?_
               rotate_left
               · (obtain ⟨h26, _⟩ := hV; replace h26 : f 26 = _ := h26; exact want_yes (t := 41) rfl (by kernel_rfl) rfl h26)
               · (obtain ⟨h26, _⟩ := hV; replace h26 : f 26 = _ := h26; obtain ⟨c0, c1, c2, c3, d0⟩ := HS.out _ hR; go_simp; all_goals (try with_reducible rfl)))
            | (refine Steps.skip rfl (fun f w' hR hV => ?_) ?_
               · (obtain ⟨h26, _⟩ := hV; replace h26 : f 26 = _ := h26; first | exact want_no (t := 41) rfl (by kernel_rfl) rfl h26 rfl | exact want_undef (t := 41) rfl (by kernel_rfl) rfl h26))
          all_goals first
            | (refine Steps.pure (v := ?_) Keeps.refl rfl (fun f w' hR hV => ⟨?_, ?_⟩) ?_
               rotate_left
               · (obtain ⟨h26, _⟩ := hV; replace h26 : f 26 = _ := h26; exact want_yes (t := 41) rfl (by kernel_rfl) rfl h26)
               · (obtain ⟨h26, _⟩ := hV; replace h26 : f 26 = _ := h26; obtain ⟨c0, c1, c2, c3, d0⟩ := HS.out _ hR; go_simp; all_goals (try with_reducible rfl)))
            | (refine Steps.skip rfl (fun f w' hR hV => ?_) ?_
               · (obtain ⟨h26, _⟩ := hV; replace h26 : f 26 = _ := h26; first | exact want_no (t := 41) rfl (by kernel_rfl) rfl h26 rfl | exact want_undef (t := 41) rfl (by kernel_rfl) rfl h26))
          all_goals first
            | (refine Steps.pure (v := ?_) Keeps.refl rfl (fun f w' hR hV => ⟨?_, ?_⟩) ?_
               rotate_left
               · (obtain ⟨h26, _⟩ := hV; replace h26 : f 26 = _ := h26; exact want_yes (t := 41) rfl (by kernel_rfl) rfl h26)
               · (obtain ⟨h26, _⟩ := hV; replace h26 : f 26 = _ := h26; obtain ⟨c0, c1, c2, c3, d0⟩ := HS.out _ hR; go_simp; all_goals (try with_reducible rfl)))
            | (refine Steps.skip rfl (fun f w' hR hV => ?_) ?_
               · (obtain ⟨h26, _⟩ := hV; replace h26 : f 26 = _ := h26; first | exact want_no (t := 41) rfl (by kernel_rfl) rfl h26 rfl | exact want_undef (t := 41) rfl (by kernel_rfl) rfl h26))
          all_goals first
            | (refine Steps.pure (v := ?_) Keeps.refl rfl (fun f w' hR hV => ⟨?_, ?_⟩) ?_
               rotate_left
               · (obtain ⟨h26, _, _, _⟩ := hV; replace h26 : f 26 = _ := h26; exact want_yes (t := 41) rfl (by kernel_rfl) rfl h26)
               · (obtain ⟨h26, h28, h29, _⟩ := hV; replace h26 : f 26 = _ := h26; replace h28 : f 28 = _ := h28; replace h29 : f 29 = _ := h29; obtain ⟨c0, c1, c2, c3, d0⟩ := HS.out _ hR; go_simp; all_goals (try with_reducible rfl)))
            | (refine Steps.skip rfl (fun f w' hR hV => ?_) ?_
               · (obtain ⟨h26, _, _, _⟩ := hV; replace h26 : f 26 = _ := h26; first | exact want_no (t := 41) rfl (by kernel_rfl) rfl h26 rfl | exact want_undef (t := 41) rfl (by kernel_rfl) rfl h26))
          all_goals first
            | (refine Steps.pure (v := ?_) Keeps.refl rfl (fun f w' hR hV => ⟨?_, ?_⟩) ?_
               rotate_left
               · (obtain ⟨h26, _, _⟩ := hV; replace h26 : f 26 = _ := h26; exact want_yes (t := 41) rfl (by kernel_rfl) rfl h26)
               · (obtain ⟨h26, h30, _⟩ := hV; replace h26 : f 26 = _ := h26; replace h30 : f 30 = _ := h30; obtain ⟨c0, c1, c2, c3, d0⟩ := HS.out _ hR; go_simp; all_goals (try with_reducible rfl)))
            | (refine Steps.skip rfl (fun f w' hR hV => ?_) ?_
               · (obtain ⟨h26, _, _⟩ := hV; replace h26 : f 26 = _ := h26; first | exact want_no (t := 41) rfl (by kernel_rfl) rfl h26 rfl | exact want_undef (t := 41) rfl (by kernel_rfl) rfl h26))
          all_goals first
            | (refine Steps.pure (v := ?_) Keeps.refl rfl (fun f w' hR hV => ⟨?_, ?_⟩) ?_
               rotate_left
               · (obtain ⟨h26, _, _⟩ := hV; replace h26 : f 26 = _ := h26; exact want_yes (t := 41) rfl (by kernel_rfl) rfl h26)
               · (obtain ⟨h26, h31, _⟩ := hV; replace h26 : f 26 = _ := h26; replace h31 : f 31 = _ := h31; obtain ⟨c0, c1, c2, c3, d0⟩ := HS.out _ hR; go_simp; all_goals (try with_reducible rfl)))
            | (refine Steps.skip rfl (fun f w' hR hV => ?_) ?_
               · (obtain ⟨h26, _, _⟩ := hV; replace h26 : f 26 = _ := h26; first | exact want_no (t := 41) rfl (by kernel_rfl) rfl h26 rfl | exact want_undef (t := 41) rfl (by kernel_rfl) rfl h26))
          all_goals first
            | (refine Steps.call (fun _ v => ∃ ao2 cap2, v = .slice ao2 n cap2) rfl (fun _ _ _ _ h => h) (fun f w' hR hV => ⟨?_, ?_⟩) ?_
               · (obtain ⟨h26, _, _, _⟩ := hV; replace h26 : f 26 = _ := h26; exact want_yes (t := 41) rfl (by kernel_rfl) rfl h26)
               · (obtain ⟨h26, h27, h32, _⟩ := hV; replace h26 : f 26 = _ := h26; replace h27 : f 27 = _ := h27; replace h32 : f 32 = _ := h32; obtain ⟨c0, c1, c2, c3, d0⟩ := HS.out _ hR; go_simp; go_at_call 40; refine (HC.out _ (HH.out.keeps (HW.out.drew.trans hR))).mono ?_; rintro e w2 ⟨ao2, cap2, rfl, hk2⟩; exact StepPost.of _ rfl ⟨_, _, rfl⟩ hk2))
            | (refine Steps.skip rfl (fun f w' hR hV => ?_) ?_
               · (obtain ⟨h26, _, _, _⟩ := hV; replace h26 : f 26 = _ := h26; first | exact want_no (t := 41) rfl (by kernel_rfl) rfl h26 rfl | exact want_undef (t := 41) rfl (by kernel_rfl) rfl h26))
          all_goals first
            | (refine Steps.pure (v := ?_) Keeps.refl rfl (fun f w' hR hV => ⟨?_, ?_⟩) ?_
               rotate_left
               · (obtain ⟨h26, _, _⟩ := hV; replace h26 : f 26 = _ := h26; exact want_yes (t := 41) rfl (by kernel_rfl) rfl h26)
               · (obtain ⟨h26, h33, _⟩ := hV; replace h26 : f 26 = _ := h26; replace h33 : ∃ ao2 cap2, f 33 = .slice ao2 n cap2 := h33; obtain ⟨ao2, cap2, h33⟩ := h33; go_simp; all_goals (try with_reducible rfl)))
            | (refine Steps.skip rfl (fun f w' hR hV => ?_) ?_
               · (obtain ⟨h26, _, _⟩ := hV; replace h26 : f 26 = _ := h26; first | exact want_no (t := 41) rfl (by kernel_rfl) rfl h26 rfl | exact want_undef (t := 41) rfl (by kernel_rfl) rfl h26))
          all_goals first
            | (refine Steps.pure (v := ?_) Keeps.refl rfl (fun f w' hR hV => ⟨?_, ?_⟩) ?_
               rotate_left
               · (obtain ⟨h26, _⟩ := hV; replace h26 : f 26 = _ := h26; exact want_yes (t := 41) rfl (by kernel_rfl) rfl h26)
               · (obtain ⟨h26, _⟩ := hV; replace h26 : f 26 = _ := h26; obtain ⟨c0, c1, c2, c3, d0⟩ := HS.out _ hR; go_simp; all_goals (try with_reducible rfl)))
            | (refine Steps.skip rfl (fun f w' hR hV => ?_) ?_
               · (obtain ⟨h26, _⟩ := hV; replace h26 : f 26 = _ := h26; first | exact want_no (t := 41) rfl (by kernel_rfl) rfl h26 rfl | exact want_undef (t := 41) rfl (by kernel_rfl) rfl h26))
          all_goals first
            | (refine Steps.pure (v := ?_) Keeps.refl rfl (fun f w' hR hV => ⟨?_, ?_⟩) ?_
               rotate_left
               · (obtain ⟨h26, _, _⟩ := hV; replace h26 : f 26 = _ := h26; exact want_yes (t := 41) rfl (by kernel_rfl) rfl h26)
               · (obtain ⟨h26, h35, _⟩ := hV; replace h26 : f 26 = _ := h26; replace h35 : f 35 = _ := h35; obtain ⟨c0, c1, c2, c3, d0⟩ := HS.out _ hR; go_simp; all_goals (try with_reducible rfl)))
            | (refine Steps.skip rfl (fun f w' hR hV => ?_) ?_
               · (obtain ⟨h26, _, _⟩ := hV; replace h26 : f 26 = _ := h26; first | exact want_no (t := 41) rfl (by kernel_rfl) rfl h26 rfl | exact want_undef (t := 41) rfl (by kernel_rfl) rfl h26))
          all_goals first
            | (refine Steps.pure (v := ?_) Keeps.refl rfl (fun f w' hR hV => ⟨?_, ?_⟩) ?_
               rotate_left
               · (obtain ⟨h26, _, _, _⟩ := hV; replace h26 : f 26 = _ := h26; exact want_yes (t := 41) rfl (by kernel_rfl) rfl h26)
               · (obtain ⟨h26, h34, h36, _⟩ := hV; replace h26 : f 26 = _ := h26; replace h34 : f 34 = _ := h34; replace h36 : f 36 = _ := h36; obtain ⟨c0, c1, c2, c3, d0⟩ := HS.out _ hR; go_simp; all_goals (try with_reducible rfl)))
            | (refine Steps.skip rfl (fun f w' hR hV => ?_) ?_
               · (obtain ⟨h26, _, _, _⟩ := hV; replace h26 : f 26 = _ := h26; first | exact want_no (t := 41) rfl (by kernel_rfl) rfl h26 rfl | exact want_undef (t := 41) rfl (by kernel_rfl) rfl h26))
          all_goals (
            refine Steps.pure (v := ?_) Keeps.refl rfl (fun f w' hR hV => ⟨?_, ?_⟩) ?_
            rotate_left
            · (rfl)
            · (obtain ⟨h26, h37, _⟩ := hV; replace h26 : f 26 = _ := h26; replace h37 : f 37 = _ := h37; obtain ⟨c0, c1, c2, c3, d0⟩ := HS.out _ hR; go_simp; all_goals (try with_reducible rfl)))
          all_goals (refine Steps.done [38] (by kernel_rfl) rfl (fun f wq hR hV => ?_); obtain ⟨h38, _⟩ := hV; replace h38 : f 38 = _ := h38; simp only [h38])
          all_goals (have HR := Lib.hid (HW.out.drew.trans hR); clear hR)
          all_goals (go_wp2; go_ret; rw [HB.out]; exact ⟨rfl, HR.out⟩)
    · obtain rfl : k = l.length := by omega
      have HB := Lib.hid ((validRB_good (fun j hj => HN.out j hj)).trans (decide_eq_true hl))
      go_wp2_with fail
      go_ret
      rw [HB.out]
      exact ⟨rfl, HW.out⟩
end Go.Proofs.Ytppjjmjdiccloab
