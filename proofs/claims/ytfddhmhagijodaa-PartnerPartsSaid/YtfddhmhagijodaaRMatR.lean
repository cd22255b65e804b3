/- The reference's In and Matched: the walks. -/
import Derived.Test.YtfddhmhagijodaaMatW
import Derived.Test.YtfddhmhagijodaaRG
namespace Go.Proofs.Ytfddhmhagijodaa
open Go.RowKit
set_option linter.unusedSimpArgs false
set_option linter.unusedVariables false

theorem eqlRef (x y : Rf) (w : World) : (binOp .eql 59 (.agg #[.int .i64 x.e, .int .i64 x.l]) (.agg #[.int .i64 y.e, .int .i64 y.l])).run Try.prog w = .ok (.bool (decide (x = y))) w := by
  obtain ⟨a, b⟩ := x
  obtain ⟨c, d⟩ := y
  by_cases h1 : a = c
  · subst h1
    by_cases h2 : b = d
    · subst h2
      simp only [decide_true]
      go_simp
    · have h3 : (b == d) = false := by simpa using h2
      have h4 : decide ((⟨a, b⟩ : Rf) = ⟨a, d⟩) = false := by simp [h2]
      rw [h4]
      go_simp
  · have h3 : (a == c) = false := by simpa using h1
    have h4 : decide ((⟨a, b⟩ : Rf) = ⟨c, d⟩) = false := by simp [h1]
    rw [h4]
    go_simp
set_option maxRecDepth 100000 in
set_option maxHeartbeats 1000000 in
theorem in_any (l : List Rf) (r : Rf) (ao : Option Addr) (cap b o : Nat) (w : World) (H : Recs w 2 Rf.cells ao l cap b o) :
    Calls Try.prog 44 #[.slice ao l.length cap, .agg #[.int .i64 r.e, .int .i64 r.l]] w fun e w' => e = .returned (.bool (memB l r)) ∧ Keeps w w' := by
  have hcap := Sl.cap H
  have hle := Sl.le H
  have HH := Lib.hid H
  clear H
  have b0 : (w.alloc (.cells #[.int .i64 r.e, .int .i64 r.l] 59)).cell? ⟨w.heap.size, 0, none⟩ = some (.int .i64 r.e) := by go_simp
  have b1 : (w.alloc (.cells #[.int .i64 r.e, .int .i64 r.l] 59)).cell? ⟨w.heap.size, 1, none⟩ = some (.int .i64 r.l) := by go_simp
  have hk0 : Keeps w (w.alloc (.cells #[.int .i64 r.e, .int .i64 r.l] 59)) := (Keeps.refl w).alloc _
  obtain ⟨W1, hW1⟩ : ∃ W1, w.alloc (.cells #[.int .i64 r.e, .int .i64 r.l] 59) = W1 := ⟨_, rfl⟩
  rw [hW1] at b0 b1 hk0
  have HK0 := Lib.hid hk0
  clear hk0
  go_enter Try.func44, Try.ntmps44
  go_wp2_with fail
  try rw [hW1]
  clear hW1
  go_loopw [5] (fun vi wr => ∃ k : Nat, k ≤ l.length ∧ vi = .int .i64 k ∧ Hid (Keeps W1 wr) ∧ Hid (∀ q ∈ l.take k, q ≠ r)) (fun vi _ => l.length - (intOf vi).toNat)
  case atStart => exact ⟨0, Nat.zero_le _, rfl, Lib.hid (Keeps.refl W1), Lib.hid (by simp)⟩
  case round =>
    obtain ⟨k, hk, rfl, HW, HZ⟩ := hrel
    by_cases hlt : k < l.length
    · have hr := HH.out.keeps (HK0.out.trans HW.out)
      have hix := Sl.at hr Try.underlying45 Try.sizeOf59 k hlt
      obtain ⟨q, hq⟩ : ∃ q, l[k] = q := ⟨_, rfl⟩
      have c0 := hr.cell Rf.len k hlt 0 (.int .i64 q.e) (by rw [hq]; rfl)
      have c1 := hr.cell Rf.len k hlt 1 (.int .i64 q.l) (by rw [hq]; rfl)
      rw [Nat.add_zero] at c0
      have d0 := HW.out.cell b0
      have d1 := HW.out.cell b1
      have heq : ∀ w, (binOp .eql 59 (.agg #[.int .i64 q.e, .int .i64 q.l]) (.agg #[.int .i64 r.e, .int .i64 r.l])).run Try.prog w = .ok (.bool (decide (q = r))) w := eqlRef q r
      have HQ := Lib.hid hq
      have HM := Lib.hid (show q ∈ l by rw [← hq]; exact List.getElem_mem ..)
      clear hr hq
      by_cases hqr : q = r
      · have HR : Hid (memB l r = true) := Lib.hid (by unfold memB; rw [← hqr]; exact decide_eq_true HM.out)
        rw [decide_eq_true hqr] at heq
        clear hqr
        go_wp2_with fail
        go_quiet (fail)
        go_wp2_with fail
        go_ret
        exact ⟨by rw [HR.out]; rfl, HK0.out.trans (HW.out.drewN _)⟩
      · have HR := Lib.hid hqr
        rw [decide_eq_false hqr] at heq
        clear hqr
        go_wp2_with fail
        go_quiet (fail)
        go_wp2_with fail
        go_roundw
        case rel => exact ⟨k + 1, by omega, by go_num, Lib.hid (HW.out.drewN _), Lib.hid (by
          rw [take_snoc _ k hlt, HQ.out]
          intro u hu
          rcases List.mem_append.1 hu with h | h
          · exact HZ.out u h
          · rw [List.mem_singleton.1 h]; exact HR.out)⟩
        case measure => simp [intOf]; omega
    · obtain rfl : k = l.length := by omega
      have HR : Hid (memB l r = false) := Lib.hid (by
        have h := HZ.out
        rw [List.take_length] at h
        exact decide_eq_false (fun hm => h r hm rfl))
      go_wp2_with fail
      go_ret
      exact ⟨by rw [HR.out]; rfl, HK0.out.trans HW.out⟩
theorem mref_any (ms : List MV) (r : Rf) : mref ms r = ms.any (fun m => memB m.x.left r || memB m.x.right r) := by
  unfold mref refsOf memB
  rw [Bool.eq_iff_iff]
  simp [List.mem_flatMap]
set_option maxRecDepth 100000 in
set_option maxHeartbeats 4000000 in
theorem rmatched_any (bv : List Value) (es : List JV) (ms : List MV) (r : Rf) (w : World) (H : Bks w bv es ms) :
    Calls Try.prog 26 #[.agg bv.toArray, .agg #[.int .i64 r.e, .int .i64 r.l]] w fun e w' => e = .returned (.bool (mref ms r)) ∧ Keeps w w' := by
  obtain ⟨ao, cap, b, o, he, hm⟩ := H.mts
  have hbl := H.len
  have HM := Lib.hid hm
  have h1 := Sl.le hm.row
  have h2 := Sl.cap hm.row
  have hrg := range_keeps (box_range w bv 36) ((Keeps.refl _).alloc (.cells #[.int .i64 r.e, .int .i64 r.l] 59))
  have c24 := hrg 24 _ he
  simp only [Nat.zero_add] at c24
  have hz0 : (w.alloc (.cells bv.toArray 36)).heap.size = w.heap.size + 1 := by simp
  obtain ⟨W1, hW1⟩ : ∃ W1, w.alloc (.cells bv.toArray 36) = W1 := ⟨_, rfl⟩
  have hk0 : Keeps w W1 := by rw [← hW1]; exact (Keeps.refl w).alloc _
  rw [hW1] at c24 hz0
  have b0 : (W1.alloc (.cells #[.int .i64 r.e, .int .i64 r.l] 59)).cell? ⟨w.heap.size + 1, 0, none⟩ = some (.int .i64 r.e) := by rw [← hz0]; go_simp
  have b1 : (W1.alloc (.cells #[.int .i64 r.e, .int .i64 r.l] 59)).cell? ⟨w.heap.size + 1, 1, none⟩ = some (.int .i64 r.l) := by rw [← hz0]; go_simp
  have hk1 : Keeps w (W1.alloc (.cells #[.int .i64 r.e, .int .i64 r.l] 59)) := hk0.alloc _
  obtain ⟨W2, hW2⟩ : ∃ W2, W1.alloc (.cells #[.int .i64 r.e, .int .i64 r.l] 59) = W2 := ⟨_, rfl⟩
  rw [hW2] at c24 b0 b1 hk1
  have HK0 := Lib.hid hk1
  clear hk1
  clear hm hrg H hk0
  go_enter Try.func26, Try.ntmps26
  go_wp2_with fail
  try rw [hW1]
  try rw [hW2]
  clear hW1 hW2
  go_loopw [5] (fun vi wr => ∃ k : Nat, k ≤ ms.length ∧ vi = .int .i64 k ∧ Hid (Keeps W2 wr) ∧ Hid (∀ m ∈ ms.take k, (memB m.x.left r || memB m.x.right r) = false)) (fun vi _ => ms.length - (intOf vi).toNat)
  case atStart => exact ⟨0, Nat.zero_le _, rfl, Lib.hid (Keeps.refl W2), Lib.hid (by simp)⟩
  case round =>
    obtain ⟨k, hk, rfl, HW, HZ⟩ := hrel
    have a24 := HW.out.cell c24
    by_cases hlt : k < ms.length
    · have hr := HM.out.row.keeps (HK0.out.trans HW.out)
      have hix := Sl.at hr Try.underlying33 Try.sizeOf70 k hlt
      obtain ⟨m, hmk⟩ : ∃ m, ms[k] = m := ⟨_, rfl⟩
      have c1 := hr.cell MV.len k hlt 1 (.slice m.al m.x.left.length m.cl) (by rw [hmk]; rfl)
      have c2 := hr.cell MV.len k hlt 2 (.slice m.ar m.x.right.length m.cr) (by rw [hmk]; rfl)
      have hmem : m ∈ ms := by rw [← hmk]; exact List.getElem_mem ..
      have HS : Hid (∀ w', Keeps wr.drew w' → w'.cell? ⟨w.heap.size, 24, none⟩ = some (.slice ao ms.length cap) ∧ w'.cell? ⟨b, o + k * 4 + 1, none⟩ = some (.slice m.al m.x.left.length m.cl) ∧ w'.cell? ⟨b, o + k * 4 + 2, none⟩ = some (.slice m.ar m.x.right.length m.cr) ∧ w'.cell? ⟨w.heap.size + 1, 0, none⟩ = some (.int .i64 r.e) ∧ w'.cell? ⟨w.heap.size + 1, 1, none⟩ = some (.int .i64 r.l)) := Lib.hid (fun w' h => have h := (Keeps.refl wr).drew.trans h; ⟨h.cell a24, h.cell c1, h.cell c2, (HW.out.trans h).cell b0, (HW.out.trans h).cell b1⟩)
      have hsl := HM.out.left m hmem
      have hsr := HM.out.right m hmem
      obtain ⟨p, hp⟩ : ∃ p, memB m.x.left r = p := ⟨_, rfl⟩
      obtain ⟨q, hq⟩ : ∃ q, memB m.x.right r = q := ⟨_, rfl⟩
      have HI1 : Hid (∀ W, Keeps wr.drew W → Calls Try.prog 44 #[.slice m.al m.x.left.length m.cl, .agg #[.int .i64 r.e, .int .i64 r.l]] W fun e w' => e = .returned (.bool p) ∧ Keeps W w') := Lib.hid (fun W hW => by have := in_any m.x.left r m.al m.cl m.bl m.ol W (hsl.keeps (HK0.out.trans (HW.out.trans ((Keeps.refl wr).drew.trans hW)))); rw [hp] at this; exact this)
      have HI2 : Hid (∀ W, Keeps wr.drew W → Calls Try.prog 44 #[.slice m.ar m.x.right.length m.cr, .agg #[.int .i64 r.e, .int .i64 r.l]] W fun e w' => e = .returned (.bool q) ∧ Keeps W w') := Lib.hid (fun W hW => by have := in_any m.x.right r m.ar m.cr m.br m.or_ W (hsr.keeps (HK0.out.trans (HW.out.trans ((Keeps.refl wr).drew.trans hW)))); rw [hq] at this; exact this)
      have HPQ : Hid ((memB m.x.left r || memB m.x.right r) = (p || q)) := Lib.hid (by rw [hp, hq])
      have HMK := Lib.hid hmk
      have HME := Lib.hid hmem
      clear hr hmk hsl hsr hp hq hmem c1 c2
      go_wp2_with fail
      refine wp_region_steps (A := ?_) Keeps [some 13, some 14, some 15, some 16, some 17, some 18, some 19, some 20, some 21, some 22, some 23, some 24, some 25, some 26, some 27, some 28, some 29, some 30] [[], [0], [], [1, 2], [3], [4], [], [5, 6], [7], [8], [8, 9], [8], [8, 10, 11], [8, 12], [8, 13], [8], [8, 14, 15], [8, 16]] 18 (by kernel_rfl) (by kernel_rfl) (by kernel_rfl) (by kernel_rfl) (by kernel_rfl) (by kernel_rfl) Keeps.refl (fun _ _ _ => Keeps.trans) ?_ ?_
      rotate_left
      · intro f; simp only [putL, Act.put, List.setIfInBounds_toArray, List.set_cons_zero, List.set_cons_succ, Nat.zero_add, Nat.reduceAdd]; exact rfl
      refine Steps.pure (v := ?_) Keeps.refl rfl (fun f w' hR hV => ⟨?_, ?_⟩) ?_
      rotate_left
      · (rfl)
      · (clear hV; obtain ⟨c0, c1, c2, d0, d1⟩ := HS.out _ hR; go_simp; all_goals (try with_reducible rfl))
      refine Steps.pure (v := ?_) Keeps.refl rfl (fun f w' hR hV => ⟨?_, ?_⟩) ?_
      rotate_left
      · (rfl)
      · (obtain ⟨h0, _⟩ := hV; replace h0 : f 0 = _ := h0; obtain ⟨c0, c1, c2, d0, d1⟩ := HS.out _ hR; go_simp; all_goals (try with_reducible rfl))
      refine Steps.pure (v := ?_) Keeps.refl rfl (fun f w' hR hV => ⟨?_, ?_⟩) ?_
      rotate_left
      · (rfl)
      · (clear hV; obtain ⟨c0, c1, c2, d0, d1⟩ := HS.out _ hR; go_simp; all_goals (try with_reducible rfl))
      refine Steps.pure (v := ?_) Keeps.refl rfl (fun f w' hR hV => ⟨?_, ?_⟩) ?_
      rotate_left
      · (rfl)
      · (obtain ⟨h1, h2, _⟩ := hV; replace h1 : f 1 = _ := h1; replace h2 : f 2 = _ := h2; obtain ⟨c0, c1, c2, d0, d1⟩ := HS.out _ hR; go_simp; all_goals (try with_reducible rfl))
      refine Steps.pure (v := ?_) Keeps.refl rfl (fun f w' hR hV => ⟨?_, ?_⟩) ?_
      rotate_left
      · (rfl)
      · (obtain ⟨h3, _⟩ := hV; replace h3 : f 3 = _ := h3; obtain ⟨c0, c1, c2, d0, d1⟩ := HS.out _ hR; go_simp; all_goals (try with_reducible rfl))
      refine Steps.pure (v := ?_) Keeps.refl rfl (fun f w' hR hV => ⟨?_, ?_⟩) ?_
      rotate_left
      · (rfl)
      · (obtain ⟨h4, _⟩ := hV; replace h4 : f 4 = _ := h4; obtain ⟨c0, c1, c2, d0, d1⟩ := HS.out _ hR; go_simp; all_goals (try with_reducible rfl))
      refine Steps.pure (v := ?_) Keeps.refl rfl (fun f w' hR hV => ⟨?_, ?_⟩) ?_
      rotate_left
      · (rfl)
      · (clear hV; obtain ⟨c0, c1, c2, d0, d1⟩ := HS.out _ hR; go_simp; all_goals (try with_reducible rfl))
      refine Steps.call (fun _ v => v = .bool p) rfl (fun _ _ _ _ h => h) (fun f w' hR hV => ⟨?_, ?_⟩) ?_
      · (rfl)
      · (obtain ⟨h5, h6, _⟩ := hV; replace h5 : f 5 = _ := h5; replace h6 : f 6 = _ := h6; obtain ⟨c0, c1, c2, d0, d1⟩ := HS.out _ hR; go_simp; go_at_call 44; refine (HI1.out _ hR).mono ?_; rintro e w2 ⟨rfl, hk2⟩; exact StepPost.of _ rfl rfl hk2)
      refine Steps.pure (v := ?_) Keeps.refl rfl (fun f w' hR hV => ⟨?_, ?_⟩) ?_
      rotate_left
      · (rfl)
      · (obtain ⟨h7, _⟩ := hV; replace h7 : f 7 = _ := h7; obtain ⟨c0, c1, c2, d0, d1⟩ := HS.out _ hR; go_simp; all_goals (try with_reducible rfl))
      cases p
      all_goals first
        | (refine Steps.pure (v := ?_) Keeps.refl rfl (fun f w' hR hV => ⟨?_, ?_⟩) ?_
           rotate_left
           · (obtain ⟨h8, _⟩ := hV; replace h8 : f 8 = _ := h8; exact want_yes (t := 21) rfl (by kernel_rfl) rfl h8)
           · (obtain ⟨h8, _⟩ := hV; replace h8 : f 8 = _ := h8; obtain ⟨c0, c1, c2, d0, d1⟩ := HS.out _ hR; go_simp; all_goals (try with_reducible rfl)))
        | (refine Steps.skip rfl (fun f w' hR hV => ?_) ?_
           · (obtain ⟨h8, _⟩ := hV; replace h8 : f 8 = _ := h8; first | exact want_no (t := 21) rfl (by kernel_rfl) rfl h8 rfl | exact want_undef (t := 21) rfl (by kernel_rfl) rfl h8))
      all_goals first
        | (refine Steps.pure (v := ?_) Keeps.refl rfl (fun f w' hR hV => ⟨?_, ?_⟩) ?_
           rotate_left
           · (obtain ⟨h8, _, _⟩ := hV; replace h8 : f 8 = _ := h8; exact want_yes (t := 21) rfl (by kernel_rfl) rfl h8)
           · (obtain ⟨h8, h9, _⟩ := hV; replace h8 : f 8 = _ := h8; replace h9 : f 9 = _ := h9; obtain ⟨c0, c1, c2, d0, d1⟩ := HS.out _ hR; go_simp; all_goals (try with_reducible rfl)))
        | (refine Steps.skip rfl (fun f w' hR hV => ?_) ?_
           · (obtain ⟨h8, _, _⟩ := hV; replace h8 : f 8 = _ := h8; first | exact want_no (t := 21) rfl (by kernel_rfl) rfl h8 rfl | exact want_undef (t := 21) rfl (by kernel_rfl) rfl h8))
      all_goals first
        | (refine Steps.pure (v := ?_) Keeps.refl rfl (fun f w' hR hV => ⟨?_, ?_⟩) ?_
           rotate_left
           · (obtain ⟨h8, _⟩ := hV; replace h8 : f 8 = _ := h8; exact want_yes (t := 21) rfl (by kernel_rfl) rfl h8)
           · (obtain ⟨h8, _⟩ := hV; replace h8 : f 8 = _ := h8; obtain ⟨c0, c1, c2, d0, d1⟩ := HS.out _ hR; go_simp; all_goals (try with_reducible rfl)))
        | (refine Steps.skip rfl (fun f w' hR hV => ?_) ?_
           · (obtain ⟨h8, _⟩ := hV; replace h8 : f 8 = _ := h8; first | exact want_no (t := 21) rfl (by kernel_rfl) rfl h8 rfl | exact want_undef (t := 21) rfl (by kernel_rfl) rfl h8))
      all_goals first
        | (refine Steps.pure (v := ?_) Keeps.refl rfl (fun f w' hR hV => ⟨?_, ?_⟩) ?_
           rotate_left
           · (obtain ⟨h8, _, _, _⟩ := hV; replace h8 : f 8 = _ := h8; exact want_yes (t := 21) rfl (by kernel_rfl) rfl h8)
           · (obtain ⟨h8, h10, h11, _⟩ := hV; replace h8 : f 8 = _ := h8; replace h10 : f 10 = _ := h10; replace h11 : f 11 = _ := h11; obtain ⟨c0, c1, c2, d0, d1⟩ := HS.out _ hR; go_simp; all_goals (try with_reducible rfl)))
        | (refine Steps.skip rfl (fun f w' hR hV => ?_) ?_
           · (obtain ⟨h8, _, _, _⟩ := hV; replace h8 : f 8 = _ := h8; first | exact want_no (t := 21) rfl (by kernel_rfl) rfl h8 rfl | exact want_undef (t := 21) rfl (by kernel_rfl) rfl h8))
      all_goals first
        | (refine Steps.pure (v := ?_) Keeps.refl rfl (fun f w' hR hV => ⟨?_, ?_⟩) ?_
           rotate_left
           · (obtain ⟨h8, _, _⟩ := hV; replace h8 : f 8 = _ := h8; exact want_yes (t := 21) rfl (by kernel_rfl) rfl h8)
           · (obtain ⟨h8, h12, _⟩ := hV; replace h8 : f 8 = _ := h8; replace h12 : f 12 = _ := h12; obtain ⟨c0, c1, c2, d0, d1⟩ := HS.out _ hR; go_simp; all_goals (try with_reducible rfl)))
        | (refine Steps.skip rfl (fun f w' hR hV => ?_) ?_
           · (obtain ⟨h8, _, _⟩ := hV; replace h8 : f 8 = _ := h8; first | exact want_no (t := 21) rfl (by kernel_rfl) rfl h8 rfl | exact want_undef (t := 21) rfl (by kernel_rfl) rfl h8))
      all_goals first
        | (refine Steps.pure (v := ?_) Keeps.refl rfl (fun f w' hR hV => ⟨?_, ?_⟩) ?_
           rotate_left
           · (obtain ⟨h8, _, _⟩ := hV; replace h8 : f 8 = _ := h8; exact want_yes (t := 21) rfl (by kernel_rfl) rfl h8)
           · (obtain ⟨h8, h13, _⟩ := hV; replace h8 : f 8 = _ := h8; replace h13 : f 13 = _ := h13; obtain ⟨c0, c1, c2, d0, d1⟩ := HS.out _ hR; go_simp; all_goals (try with_reducible rfl)))
        | (refine Steps.skip rfl (fun f w' hR hV => ?_) ?_
           · (obtain ⟨h8, _, _⟩ := hV; replace h8 : f 8 = _ := h8; first | exact want_no (t := 21) rfl (by kernel_rfl) rfl h8 rfl | exact want_undef (t := 21) rfl (by kernel_rfl) rfl h8))
      all_goals first
        | (refine Steps.pure (v := ?_) Keeps.refl rfl (fun f w' hR hV => ⟨?_, ?_⟩) ?_
           rotate_left
           · (obtain ⟨h8, _⟩ := hV; replace h8 : f 8 = _ := h8; exact want_yes (t := 21) rfl (by kernel_rfl) rfl h8)
           · (obtain ⟨h8, _⟩ := hV; replace h8 : f 8 = _ := h8; obtain ⟨c0, c1, c2, d0, d1⟩ := HS.out _ hR; go_simp; all_goals (try with_reducible rfl)))
        | (refine Steps.skip rfl (fun f w' hR hV => ?_) ?_
           · (obtain ⟨h8, _⟩ := hV; replace h8 : f 8 = _ := h8; first | exact want_no (t := 21) rfl (by kernel_rfl) rfl h8 rfl | exact want_undef (t := 21) rfl (by kernel_rfl) rfl h8))
      all_goals first
        | (refine Steps.call (fun _ v => v = .bool q) rfl (fun _ _ _ _ h => h) (fun f w' hR hV => ⟨?_, ?_⟩) ?_
           · (obtain ⟨h8, _, _, _⟩ := hV; replace h8 : f 8 = _ := h8; exact want_yes (t := 21) rfl (by kernel_rfl) rfl h8)
           · (obtain ⟨h8, h14, h15, _⟩ := hV; replace h8 : f 8 = _ := h8; replace h14 : f 14 = _ := h14; replace h15 : f 15 = _ := h15; obtain ⟨c0, c1, c2, d0, d1⟩ := HS.out _ hR; go_simp; go_at_call 44; refine (HI2.out _ hR).mono ?_; rintro e w2 ⟨rfl, hk2⟩; exact StepPost.of _ rfl rfl hk2))
        | (refine Steps.skip rfl (fun f w' hR hV => ?_) ?_
           · (obtain ⟨h8, _, _, _⟩ := hV; replace h8 : f 8 = _ := h8; first | exact want_no (t := 21) rfl (by kernel_rfl) rfl h8 rfl | exact want_undef (t := 21) rfl (by kernel_rfl) rfl h8))
      all_goals (
        refine Steps.pure (v := ?_) Keeps.refl rfl (fun f w' hR hV => ⟨?_, ?_⟩) ?_
        rotate_left
        · (rfl)
        · (obtain ⟨h8, h16, _⟩ := hV; replace h8 : f 8 = _ := h8; replace h16 : f 16 = _ := h16; obtain ⟨c0, c1, c2, d0, d1⟩ := HS.out _ hR; go_simp; all_goals (try with_reducible rfl)))
      all_goals (refine Steps.done [17] (by kernel_rfl) rfl (fun f wq hR hV => ?_); obtain ⟨h17, _⟩ := hV; replace h17 : f 17 = _ := h17; simp only [h17])
      all_goals (have HR := Lib.hid (HW.out.trans ((Keeps.refl wr).drew.trans hR)); clear hR)
      · cases q with
        | false =>
          go_wp2_with fail
          go_roundw
          case rel => exact ⟨k + 1, by omega, by go_num, HR, Lib.hid (by
            rw [take_snoc _ k hlt, HMK.out]
            intro u hu
            rcases List.mem_append.1 hu with h | h
            · exact HZ.out u h
            · rw [List.mem_singleton.1 h, HPQ.out]; rfl)⟩
          case measure => simp [intOf]; omega
        | true =>
          have HF : Hid (mref ms r = true) := Lib.hid (by rw [mref_any, List.any_eq_true]; exact ⟨m, HME.out, HPQ.out⟩)
          go_wp2_with fail
          go_ret
          exact ⟨by rw [HF.out]; rfl, HK0.out.trans HR.out⟩
      · have HF : Hid (mref ms r = true) := Lib.hid (by rw [mref_any, List.any_eq_true]; exact ⟨m, HME.out, HPQ.out⟩)
        go_wp2_with fail
        go_ret
        exact ⟨by rw [HF.out]; rfl, HK0.out.trans HR.out⟩
    · obtain rfl : k = ms.length := by omega
      have HF : Hid (mref ms r = false) := Lib.hid (by
        have h := HZ.out
        rw [List.take_length] at h
        rw [mref_any, List.any_eq_false]
        intro m hm
        rw [h m hm]; simp)
      go_wp2_with fail
      go_ret
      exact ⟨by rw [HF.out]; rfl, HK0.out.trans HW.out⟩
end Go.Proofs.Ytfddhmhagijodaa
