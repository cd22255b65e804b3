/- The law on Lines and Open: the walk. -/
import Derived.Test.YtfddhmhagijodaaROpnR
import Derived.Test.YtfddhmhagijodaaLawPNet
namespace Go.Proofs.Ytfddhmhagijodaa
open Go.RowKit
set_option linter.unusedSimpArgs false
set_option linter.unusedVariables false

/-- The value reads as a list of references. -/
def RfV (l : List Rf) (W : World) (v : Value) : Prop := ∃ ao cap b, v = .slice ao l.length cap ∧ Recs W 2 Rf.cells ao l cap b 0
theorem RfV.keeps {l : List Rf} {w1 w2 : World} {v : Value} (k : Keeps w1 w2) (h : RfV l w1 v) : RfV l w2 v := by obtain ⟨ao, cap, b, e, hs⟩ := h; exact ⟨ao, cap, b, e, hs.keeps k⟩
theorem RfV.own {l : List Rf} {W : World} {base : Nat} {v : Value} (h : W.ownsRow base 59 2 v l.length (l.flatMap Rf.cells)) : RfV l W v := by
  obtain ⟨ao, cap, b, rfl, hs⟩ := Sl.own h
  exact ⟨ao, cap, b, rfl, hs⟩
set_option maxRecDepth 100000 in
set_option maxHeartbeats 8000000 in
theorem lawLin_any (bv : List Value) (es : List JV) (ms : List MV) (qe qp qd : Int) (w : World) (H : Bks w bv es ms) (hsm : ∀ m ∈ ms, m.x.left.length + m.x.right.length ≤ 9223372036854775807) :
    Calls Try.prog 6 #[.agg bv.toArray, .agg #[.int .i64 qe, .int .i64 qp, .int .i64 qd]] w fun e w' => e = .returned (.bool true) ∧ Keeps w w' := by
  have HB := Lib.hid H
  have hbl := H.len
  have hrg := box_range w bv 36
  have hk0 : Keeps w (w.alloc (.cells bv.toArray 36)) := (Keeps.refl w).alloc _
  have hz0 : (w.alloc (.cells bv.toArray 36)).heap.size = w.heap.size + 1 := by simp
  obtain ⟨W1, hW1⟩ : ∃ W1, w.alloc (.cells bv.toArray 36) = W1 := ⟨_, rfl⟩
  rw [hW1] at hrg hk0 hz0
  have r0 : (W1.alloc (.cells #[.int .i64 qe, .int .i64 qp, .int .i64 qd] 38)).cell? ⟨w.heap.size + 1, 0, none⟩ = some (.int .i64 qe) := by rw [← hz0]; go_simp
  have r1 : (W1.alloc (.cells #[.int .i64 qe, .int .i64 qp, .int .i64 qd] 38)).cell? ⟨w.heap.size + 1, 1, none⟩ = some (.int .i64 qp) := by rw [← hz0]; go_simp
  have r2 : (W1.alloc (.cells #[.int .i64 qe, .int .i64 qp, .int .i64 qd] 38)).cell? ⟨w.heap.size + 1, 2, none⟩ = some (.int .i64 qd) := by rw [← hz0]; go_simp
  have hrg2 := range_keeps hrg ((Keeps.refl W1).alloc (.cells #[.int .i64 qe, .int .i64 qp, .int .i64 qd] 38))
  have HK0 := Lib.hid hk0
  clear hrg hk0
  cases hf : fewB es ms with
  | false =>
    have HF : Hid (∀ W, Keeps w W → Calls Try.prog 11 #[.agg bv.toArray] W fun e w' => e = .returned (.bool false) ∧ Keeps W w') := Lib.hid (fun W hW => by have := few_any bv es ms W (HB.out.keeps hW); rw [hf] at this; exact this)
    clear hf H hsm
    go_enter Try.func6, Try.ntmps6
    go_wp2_with (first | (go_at_call 10; first | (guard_hyp hk1 : _; refine (pawake_any _).mono ?_; rintro e w3 ⟨rfl, hk3⟩) | (refine (pawake_any _).mono ?_; rintro e w1 ⟨rfl, hk1⟩; have hrg1 := range_keeps hrg2 hk1)) | (refine wpList_booksG (.tmp 2) rfl rfl w.heap.size bv hbl rfl hrg1 ?_; clear hrg1) | (go_at_call 11; refine (HF.out _ ((HK0.out.alloc _).trans hk1)).mono ?_; rintro e w2 ⟨rfl, hk2⟩))
    go_ret
    exact ⟨rfl, ((HK0.out.alloc _).trans hk1).trans (hk2.trans hk3)⟩
  | true =>
    obtain ⟨hl8, hn40, hn20, hl20⟩ := fewB_spec hf
    have hl : ∀ m ∈ ms, m.x.left.length + m.x.right.length ≤ 20 := fun m hm => by
      have h1 := hl20 m hm
      have h2 := hsm m hm
      unfold wrap64 at h1
      omega
    have HF : Hid (∀ W, Keeps w W → Calls Try.prog 11 #[.agg bv.toArray] W fun e w' => e = .returned (.bool true) ∧ Keeps W w') := Lib.hid (fun W hW => by have := few_any bv es ms W (HB.out.keeps hW); rw [hf] at this; exact this)
    obtain ⟨l, hl1⟩ : ∃ l, linesP qd qe qp (es.map JV.x) = l := ⟨_, rfl⟩
    obtain ⟨l2, hl2⟩ : ∃ l2, openP qd qe qp (es.map JV.x) ms = l2 := ⟨_, rfl⟩
    have HP : Hid (∀ W, Keeps w W → Calls Try.prog 15 #[.agg bv.toArray, .int .i64 qe, .int .i64 qp, .int .i64 qd] W fun e w' => ∃ v, e = .returned v ∧ RfV l w' v ∧ Keeps W w') := Lib.hid (fun W hW => by
      obtain ⟨ao, cap, b, o, he, hj⟩ := HB.out.ents
      refine (lines_any bv hbl HB.out.one es ao cap b o he qe qp qd W (hj.keeps hW) (by omega) hl8).mono ?_
      rintro e w' ⟨v, rfl, ho, hk⟩
      rw [hl1] at ho
      exact ⟨v, rfl, RfV.own ho, hk⟩)
    have HR : Hid (∀ W, Keeps w W → Calls Try.prog 18 #[.agg bv.toArray, .int .i64 qe, .int .i64 qp, .int .i64 qd] W fun e w' => ∃ v, e = .returned v ∧ RfV l w' v ∧ Keeps W w') := Lib.hid (fun W hW => by
      refine (rlines_any bv es ms qe qp qd W (HB.out.keeps hW) hn40 hl8).mono ?_
      rintro e w' ⟨v, rfl, ho, hk⟩
      rw [hl1] at ho
      exact ⟨v, rfl, RfV.own ho, hk⟩)
    have HO : Hid (∀ W, Keeps w W → Calls Try.prog 19 #[.agg bv.toArray, .int .i64 qe, .int .i64 qp, .int .i64 qd] W fun e w' => ∃ v, e = .returned v ∧ RfV l2 w' v ∧ Keeps W w') := Lib.hid (fun W hW => by
      refine (open_any bv es ms qe qp qd W (HB.out.keeps hW) (by omega) hl8 hn20 hl).mono ?_
      rintro e w' ⟨v, rfl, ho, hk⟩
      rw [hl2] at ho
      exact ⟨v, rfl, RfV.own ho, hk⟩)
    have HQ : Hid (∀ W, Keeps w W → Calls Try.prog 20 #[.agg bv.toArray, .int .i64 qe, .int .i64 qp, .int .i64 qd] W fun e w' => ∃ v, e = .returned v ∧ RfV l2 w' v ∧ Keeps W w') := Lib.hid (fun W hW => by
      refine (ropen_any bv es ms qe qp qd W (HB.out.keeps hW) hn40 hl8).mono ?_
      rintro e w' ⟨v, rfl, ho, hk⟩
      rw [hl2] at ho
      exact ⟨v, rfl, RfV.own ho, hk⟩)
    clear hf H hl8 hn40 hl hl1 hl2 hsm hn20 hl20
    go_enter Try.func6, Try.ntmps6
    go_wp2_with (first | (go_at_call 10; refine (pawake_any _).mono ?_; rintro e w1 ⟨rfl, hk1⟩; have hrg1 := range_keeps hrg2 hk1; have s0 := hk1.cell r0; have s1 := hk1.cell r1; have s2 := hk1.cell r2; have K1 := Lib.hid ((HK0.out.alloc (.cells #[.int .i64 qe, .int .i64 qp, .int .i64 qd] 38)).trans hk1)) | (refine wpList_booksG (.tmp 2) rfl rfl w.heap.size bv hbl rfl hrg1 ?_) | (go_at_call 11; refine (HF.out _ K1.out).mono ?_; rintro e w2 ⟨rfl, hk2⟩; have hrgc := range_keeps hrg1 hk2; replace s0 := hk2.cell s0; replace s1 := hk2.cell s1; replace s2 := hk2.cell s2; have K2 := Lib.hid (K1.out.trans hk2)))
    have HRG : Hid (∀ W, Keeps w2.drew W → W.rangeAt w.heap.size 0 bv) := Lib.hid (fun W hW => range_keeps (show w2.drew.rangeAt w.heap.size 0 bv from hrgc) hW)
    have HSQ : Hid (∀ W, Keeps w2.drew W → W.cell? ⟨w.heap.size + 1, 0, none⟩ = some (.int .i64 qe) ∧ W.cell? ⟨w.heap.size + 1, 1, none⟩ = some (.int .i64 qp) ∧ W.cell? ⟨w.heap.size + 1, 2, none⟩ = some (.int .i64 qd)) := Lib.hid (fun W hW => ⟨hW.cell s0, hW.cell s1, hW.cell s2⟩)
    clear hrg1 hrg2 hrgc s0 s1 s2 r0 r1 r2
    refine wp_region_steps (A := ?_) Keeps [some 13, some 14, some 15, some 16, some 17, some 18, some 19, some 20, some 21, some 22, some 23, some 24, some 25, some 26, some 27, some 28, some 29, some 30, some 31, some 32, some 33, some 34, some 35, some 36, some 37, some 38, some 39, some 40, some 41, some 42, some 43, some 44, some 45, some 46, some 47, some 48, some 4] [[], [], [1], [], [3], [], [5], [0, 2, 4, 6], [], [], [9], [], [11], [], [13], [8, 10, 12, 14], [7, 15], [16], [17], [17], [17, 19], [17], [17, 21], [17], [17, 23], [17, 18, 20, 22, 24], [17], [17], [17, 27], [17], [17, 29], [17], [17, 31], [17, 26, 28, 30, 32], [17, 25, 33], [17, 34], [35]] 37 (by kernel_rfl) (by kernel_rfl) (by kernel_rfl) (by kernel_rfl) (by kernel_rfl) (by kernel_rfl) Keeps.refl (fun _ _ _ => Keeps.trans) ?_ ?_
    rotate_left
    · intro f; simp only [putL, Act.put, List.setIfInBounds_toArray, List.set_cons_zero, List.set_cons_succ, Nat.zero_add, Nat.reduceAdd]; exact rfl
    refine Steps.pure (v := .agg bv.toArray) Keeps.refl rfl (fun f w' hR hV => ⟨?_, ?_⟩) ?_
    · (rfl)
    · (clear hV; obtain ⟨x0, x1, x2⟩ := HSQ.out _ hR; exact exec_load_mid 36 (.tmp 2) rfl _ w.heap.size 0 bv rfl (HRG.out _ hR) Try.underlying36 rfl (by rw [hbl]; exact booksSize))
    refine Steps.pure (v := ?_) Keeps.refl rfl (fun f w' hR hV => ⟨?_, ?_⟩) ?_
    rotate_left
    · (rfl)
    · (clear hV; obtain ⟨x0, x1, x2⟩ := HSQ.out _ hR; go_simp; all_goals (try with_reducible rfl))
    refine Steps.pure (v := ?_) Keeps.refl rfl (fun f w' hR hV => ⟨?_, ?_⟩) ?_
    rotate_left
    · (rfl)
    · (obtain ⟨h1, _⟩ := hV; replace h1 : f 1 = _ := h1; obtain ⟨x0, x1, x2⟩ := HSQ.out _ hR; go_simp; all_goals (try with_reducible rfl))
    refine Steps.pure (v := ?_) Keeps.refl rfl (fun f w' hR hV => ⟨?_, ?_⟩) ?_
    rotate_left
    · (rfl)
    · (clear hV; obtain ⟨x0, x1, x2⟩ := HSQ.out _ hR; go_simp; all_goals (try with_reducible rfl))
    refine Steps.pure (v := ?_) Keeps.refl rfl (fun f w' hR hV => ⟨?_, ?_⟩) ?_
    rotate_left
    · (rfl)
    · (obtain ⟨h3, _⟩ := hV; replace h3 : f 3 = _ := h3; obtain ⟨x0, x1, x2⟩ := HSQ.out _ hR; go_simp; all_goals (try with_reducible rfl))
    refine Steps.pure (v := ?_) Keeps.refl rfl (fun f w' hR hV => ⟨?_, ?_⟩) ?_
    rotate_left
    · (rfl)
    · (clear hV; obtain ⟨x0, x1, x2⟩ := HSQ.out _ hR; go_simp; all_goals (try with_reducible rfl))
    refine Steps.pure (v := ?_) Keeps.refl rfl (fun f w' hR hV => ⟨?_, ?_⟩) ?_
    rotate_left
    · (rfl)
    · (obtain ⟨h5, _⟩ := hV; replace h5 : f 5 = _ := h5; obtain ⟨x0, x1, x2⟩ := HSQ.out _ hR; go_simp; all_goals (try with_reducible rfl))
    refine Steps.call (RfV l) rfl (fun _ _ _ k h => RfV.keeps k h) (fun f w' hR hV => ⟨?_, ?_⟩) ?_
    · (rfl)
    · (obtain ⟨h0, h2, h4, h6, _⟩ := hV; replace h0 : f 0 = _ := h0; replace h2 : f 2 = _ := h2; replace h4 : f 4 = _ := h4; replace h6 : f 6 = _ := h6; obtain ⟨x0, x1, x2⟩ := HSQ.out _ hR; go_simp; go_at_call 15; refine (HP.out _ (K2.out.drew.trans hR)).mono ?_; rintro e w3 ⟨v3, rfl, hs3, hk3⟩; exact StepPost.of _ rfl hs3 hk3)
    refine Steps.pure (v := .agg bv.toArray) Keeps.refl rfl (fun f w' hR hV => ⟨?_, ?_⟩) ?_
    · (rfl)
    · (clear hV; obtain ⟨x0, x1, x2⟩ := HSQ.out _ hR; exact exec_load_mid 36 (.tmp 2) rfl _ w.heap.size 0 bv rfl (HRG.out _ hR) Try.underlying36 rfl (by rw [hbl]; exact booksSize))
    refine Steps.pure (v := ?_) Keeps.refl rfl (fun f w' hR hV => ⟨?_, ?_⟩) ?_
    rotate_left
    · (rfl)
    · (clear hV; obtain ⟨x0, x1, x2⟩ := HSQ.out _ hR; go_simp; all_goals (try with_reducible rfl))
    refine Steps.pure (v := ?_) Keeps.refl rfl (fun f w' hR hV => ⟨?_, ?_⟩) ?_
    rotate_left
    · (rfl)
    · (obtain ⟨h9, _⟩ := hV; replace h9 : f 9 = _ := h9; obtain ⟨x0, x1, x2⟩ := HSQ.out _ hR; go_simp; all_goals (try with_reducible rfl))
    refine Steps.pure (v := ?_) Keeps.refl rfl (fun f w' hR hV => ⟨?_, ?_⟩) ?_
    rotate_left
    · (rfl)
    · (clear hV; obtain ⟨x0, x1, x2⟩ := HSQ.out _ hR; go_simp; all_goals (try with_reducible rfl))
    refine Steps.pure (v := ?_) Keeps.refl rfl (fun f w' hR hV => ⟨?_, ?_⟩) ?_
    rotate_left
    · (rfl)
    · (obtain ⟨h11, _⟩ := hV; replace h11 : f 11 = _ := h11; obtain ⟨x0, x1, x2⟩ := HSQ.out _ hR; go_simp; all_goals (try with_reducible rfl))
    refine Steps.pure (v := ?_) Keeps.refl rfl (fun f w' hR hV => ⟨?_, ?_⟩) ?_
    rotate_left
    · (rfl)
    · (clear hV; obtain ⟨x0, x1, x2⟩ := HSQ.out _ hR; go_simp; all_goals (try with_reducible rfl))
    refine Steps.pure (v := ?_) Keeps.refl rfl (fun f w' hR hV => ⟨?_, ?_⟩) ?_
    rotate_left
    · (rfl)
    · (obtain ⟨h13, _⟩ := hV; replace h13 : f 13 = _ := h13; obtain ⟨x0, x1, x2⟩ := HSQ.out _ hR; go_simp; all_goals (try with_reducible rfl))
    refine Steps.call (RfV l) rfl (fun _ _ _ k h => RfV.keeps k h) (fun f w' hR hV => ⟨?_, ?_⟩) ?_
    · (rfl)
    · (obtain ⟨h8, h10, h12, h14, _⟩ := hV; replace h8 : f 8 = _ := h8; replace h10 : f 10 = _ := h10; replace h12 : f 12 = _ := h12; replace h14 : f 14 = _ := h14; obtain ⟨x0, x1, x2⟩ := HSQ.out _ hR; go_simp; go_at_call 18; refine (HR.out _ (K2.out.drew.trans hR)).mono ?_; rintro e w3 ⟨v3, rfl, hs3, hk3⟩; exact StepPost.of _ rfl hs3 hk3)
    refine Steps.call (fun _ v => v = .bool true) rfl (fun _ _ _ _ h => h) (fun f w' hR hV => ⟨?_, ?_⟩) ?_
    · (rfl)
    · (obtain ⟨h7, h15, _⟩ := hV; replace h7 : RfV l w' (f 7) := h7; replace h15 : RfV l w' (f 15) := h15; obtain ⟨x0, x1, x2⟩ := HSQ.out _ hR; go_simp; obtain ⟨ao3, cap3, b3, e3, hs3⟩ := h7; obtain ⟨ao4, cap4, b4, e4, hs4⟩ := h15; simp only [e3, e4]; go_at_call 16; refine (samer_any l _ _ _ _ _ _ _ _ _ hs3 hs4).mono ?_; rintro e w5 ⟨rfl, q5, rfl⟩; exact StepPost.of _ rfl rfl ((Keeps.refl _).drewN _))
    refine Steps.pure (v := ?_) Keeps.refl rfl (fun f w' hR hV => ⟨?_, ?_⟩) ?_
    rotate_left
    · (rfl)
    · (obtain ⟨h16, _⟩ := hV; replace h16 : f 16 = _ := h16; obtain ⟨x0, x1, x2⟩ := HSQ.out _ hR; go_simp; all_goals (try with_reducible rfl))
    all_goals first
      | (refine Steps.pure (v := .agg bv.toArray) Keeps.refl rfl (fun f w' hR hV => ⟨?_, ?_⟩) ?_
         · (obtain ⟨h17, _⟩ := hV; replace h17 : f 17 = _ := h17; exact want_yes (t := 30) rfl (by kernel_rfl) rfl h17)
         · (obtain ⟨h17, _⟩ := hV; replace h17 : f 17 = _ := h17; obtain ⟨x0, x1, x2⟩ := HSQ.out _ hR; exact exec_load_mid 36 (.tmp 2) rfl _ w.heap.size 0 bv rfl (HRG.out _ hR) Try.underlying36 rfl (by rw [hbl]; exact booksSize)))
      | (refine Steps.skip rfl (fun f w' hR hV => ?_) ?_
         · (obtain ⟨h17, _⟩ := hV; replace h17 : f 17 = _ := h17; first | exact want_no (t := 30) rfl (by kernel_rfl) rfl h17 rfl | exact want_undef (t := 30) rfl (by kernel_rfl) rfl h17))
    all_goals first
      | (refine Steps.pure (v := ?_) Keeps.refl rfl (fun f w' hR hV => ⟨?_, ?_⟩) ?_
         rotate_left
         · (obtain ⟨h17, _⟩ := hV; replace h17 : f 17 = _ := h17; exact want_yes (t := 30) rfl (by kernel_rfl) rfl h17)
         · (obtain ⟨h17, _⟩ := hV; replace h17 : f 17 = _ := h17; obtain ⟨x0, x1, x2⟩ := HSQ.out _ hR; go_simp; all_goals (try with_reducible rfl)))
      | (refine Steps.skip rfl (fun f w' hR hV => ?_) ?_
         · (obtain ⟨h17, _⟩ := hV; replace h17 : f 17 = _ := h17; first | exact want_no (t := 30) rfl (by kernel_rfl) rfl h17 rfl | exact want_undef (t := 30) rfl (by kernel_rfl) rfl h17))
    all_goals first
      | (refine Steps.pure (v := ?_) Keeps.refl rfl (fun f w' hR hV => ⟨?_, ?_⟩) ?_
         rotate_left
         · (obtain ⟨h17, _, _⟩ := hV; replace h17 : f 17 = _ := h17; exact want_yes (t := 30) rfl (by kernel_rfl) rfl h17)
         · (obtain ⟨h17, h19, _⟩ := hV; replace h17 : f 17 = _ := h17; replace h19 : f 19 = _ := h19; obtain ⟨x0, x1, x2⟩ := HSQ.out _ hR; go_simp; all_goals (try with_reducible rfl)))
      | (refine Steps.skip rfl (fun f w' hR hV => ?_) ?_
         · (obtain ⟨h17, _, _⟩ := hV; replace h17 : f 17 = _ := h17; first | exact want_no (t := 30) rfl (by kernel_rfl) rfl h17 rfl | exact want_undef (t := 30) rfl (by kernel_rfl) rfl h17))
    all_goals first
      | (refine Steps.pure (v := ?_) Keeps.refl rfl (fun f w' hR hV => ⟨?_, ?_⟩) ?_
         rotate_left
         · (obtain ⟨h17, _⟩ := hV; replace h17 : f 17 = _ := h17; exact want_yes (t := 30) rfl (by kernel_rfl) rfl h17)
         · (obtain ⟨h17, _⟩ := hV; replace h17 : f 17 = _ := h17; obtain ⟨x0, x1, x2⟩ := HSQ.out _ hR; go_simp; all_goals (try with_reducible rfl)))
      | (refine Steps.skip rfl (fun f w' hR hV => ?_) ?_
         · (obtain ⟨h17, _⟩ := hV; replace h17 : f 17 = _ := h17; first | exact want_no (t := 30) rfl (by kernel_rfl) rfl h17 rfl | exact want_undef (t := 30) rfl (by kernel_rfl) rfl h17))
    all_goals first
      | (refine Steps.pure (v := ?_) Keeps.refl rfl (fun f w' hR hV => ⟨?_, ?_⟩) ?_
         rotate_left
         · (obtain ⟨h17, _, _⟩ := hV; replace h17 : f 17 = _ := h17; exact want_yes (t := 30) rfl (by kernel_rfl) rfl h17)
         · (obtain ⟨h17, h21, _⟩ := hV; replace h17 : f 17 = _ := h17; replace h21 : f 21 = _ := h21; obtain ⟨x0, x1, x2⟩ := HSQ.out _ hR; go_simp; all_goals (try with_reducible rfl)))
      | (refine Steps.skip rfl (fun f w' hR hV => ?_) ?_
         · (obtain ⟨h17, _, _⟩ := hV; replace h17 : f 17 = _ := h17; first | exact want_no (t := 30) rfl (by kernel_rfl) rfl h17 rfl | exact want_undef (t := 30) rfl (by kernel_rfl) rfl h17))
    all_goals first
      | (refine Steps.pure (v := ?_) Keeps.refl rfl (fun f w' hR hV => ⟨?_, ?_⟩) ?_
         rotate_left
         · (obtain ⟨h17, _⟩ := hV; replace h17 : f 17 = _ := h17; exact want_yes (t := 30) rfl (by kernel_rfl) rfl h17)
         · (obtain ⟨h17, _⟩ := hV; replace h17 : f 17 = _ := h17; obtain ⟨x0, x1, x2⟩ := HSQ.out _ hR; go_simp; all_goals (try with_reducible rfl)))
      | (refine Steps.skip rfl (fun f w' hR hV => ?_) ?_
         · (obtain ⟨h17, _⟩ := hV; replace h17 : f 17 = _ := h17; first | exact want_no (t := 30) rfl (by kernel_rfl) rfl h17 rfl | exact want_undef (t := 30) rfl (by kernel_rfl) rfl h17))
    all_goals first
      | (refine Steps.pure (v := ?_) Keeps.refl rfl (fun f w' hR hV => ⟨?_, ?_⟩) ?_
         rotate_left
         · (obtain ⟨h17, _, _⟩ := hV; replace h17 : f 17 = _ := h17; exact want_yes (t := 30) rfl (by kernel_rfl) rfl h17)
         · (obtain ⟨h17, h23, _⟩ := hV; replace h17 : f 17 = _ := h17; replace h23 : f 23 = _ := h23; obtain ⟨x0, x1, x2⟩ := HSQ.out _ hR; go_simp; all_goals (try with_reducible rfl)))
      | (refine Steps.skip rfl (fun f w' hR hV => ?_) ?_
         · (obtain ⟨h17, _, _⟩ := hV; replace h17 : f 17 = _ := h17; first | exact want_no (t := 30) rfl (by kernel_rfl) rfl h17 rfl | exact want_undef (t := 30) rfl (by kernel_rfl) rfl h17))
    all_goals first
      | (refine Steps.call (RfV l2) rfl (fun _ _ _ k h => RfV.keeps k h) (fun f w' hR hV => ⟨?_, ?_⟩) ?_
         · (obtain ⟨h17, _, _, _, _, _⟩ := hV; replace h17 : f 17 = _ := h17; exact want_yes (t := 30) rfl (by kernel_rfl) rfl h17)
         · (obtain ⟨h17, h18, h20, h22, h24, _⟩ := hV; replace h17 : f 17 = _ := h17; replace h18 : f 18 = _ := h18; replace h20 : f 20 = _ := h20; replace h22 : f 22 = _ := h22; replace h24 : f 24 = _ := h24; obtain ⟨x0, x1, x2⟩ := HSQ.out _ hR; go_simp; go_at_call 19; refine (HO.out _ (K2.out.drew.trans hR)).mono ?_; rintro e w3 ⟨v3, rfl, hs3, hk3⟩; exact StepPost.of _ rfl hs3 hk3))
      | (refine Steps.skip rfl (fun f w' hR hV => ?_) ?_
         · (obtain ⟨h17, _, _, _, _, _⟩ := hV; replace h17 : f 17 = _ := h17; first | exact want_no (t := 30) rfl (by kernel_rfl) rfl h17 rfl | exact want_undef (t := 30) rfl (by kernel_rfl) rfl h17))
    all_goals first
      | (refine Steps.pure (v := .agg bv.toArray) Keeps.refl rfl (fun f w' hR hV => ⟨?_, ?_⟩) ?_
         · (obtain ⟨h17, _⟩ := hV; replace h17 : f 17 = _ := h17; exact want_yes (t := 30) rfl (by kernel_rfl) rfl h17)
         · (obtain ⟨h17, _⟩ := hV; replace h17 : f 17 = _ := h17; obtain ⟨x0, x1, x2⟩ := HSQ.out _ hR; exact exec_load_mid 36 (.tmp 2) rfl _ w.heap.size 0 bv rfl (HRG.out _ hR) Try.underlying36 rfl (by rw [hbl]; exact booksSize)))
      | (refine Steps.skip rfl (fun f w' hR hV => ?_) ?_
         · (obtain ⟨h17, _⟩ := hV; replace h17 : f 17 = _ := h17; first | exact want_no (t := 30) rfl (by kernel_rfl) rfl h17 rfl | exact want_undef (t := 30) rfl (by kernel_rfl) rfl h17))
    all_goals first
      | (refine Steps.pure (v := ?_) Keeps.refl rfl (fun f w' hR hV => ⟨?_, ?_⟩) ?_
         rotate_left
         · (obtain ⟨h17, _⟩ := hV; replace h17 : f 17 = _ := h17; exact want_yes (t := 30) rfl (by kernel_rfl) rfl h17)
         · (obtain ⟨h17, _⟩ := hV; replace h17 : f 17 = _ := h17; obtain ⟨x0, x1, x2⟩ := HSQ.out _ hR; go_simp; all_goals (try with_reducible rfl)))
      | (refine Steps.skip rfl (fun f w' hR hV => ?_) ?_
         · (obtain ⟨h17, _⟩ := hV; replace h17 : f 17 = _ := h17; first | exact want_no (t := 30) rfl (by kernel_rfl) rfl h17 rfl | exact want_undef (t := 30) rfl (by kernel_rfl) rfl h17))
    all_goals first
      | (refine Steps.pure (v := ?_) Keeps.refl rfl (fun f w' hR hV => ⟨?_, ?_⟩) ?_
         rotate_left
         · (obtain ⟨h17, _, _⟩ := hV; replace h17 : f 17 = _ := h17; exact want_yes (t := 30) rfl (by kernel_rfl) rfl h17)
         · (obtain ⟨h17, h27, _⟩ := hV; replace h17 : f 17 = _ := h17; replace h27 : f 27 = _ := h27; obtain ⟨x0, x1, x2⟩ := HSQ.out _ hR; go_simp; all_goals (try with_reducible rfl)))
      | (refine Steps.skip rfl (fun f w' hR hV => ?_) ?_
         · (obtain ⟨h17, _, _⟩ := hV; replace h17 : f 17 = _ := h17; first | exact want_no (t := 30) rfl (by kernel_rfl) rfl h17 rfl | exact want_undef (t := 30) rfl (by kernel_rfl) rfl h17))
    all_goals first
      | (refine Steps.pure (v := ?_) Keeps.refl rfl (fun f w' hR hV => ⟨?_, ?_⟩) ?_
         rotate_left
         · (obtain ⟨h17, _⟩ := hV; replace h17 : f 17 = _ := h17; exact want_yes (t := 30) rfl (by kernel_rfl) rfl h17)
         · (obtain ⟨h17, _⟩ := hV; replace h17 : f 17 = _ := h17; obtain ⟨x0, x1, x2⟩ := HSQ.out _ hR; go_simp; all_goals (try with_reducible rfl)))
      | (refine Steps.skip rfl (fun f w' hR hV => ?_) ?_
         · (obtain ⟨h17, _⟩ := hV; replace h17 : f 17 = _ := h17; first | exact want_no (t := 30) rfl (by kernel_rfl) rfl h17 rfl | exact want_undef (t := 30) rfl (by kernel_rfl) rfl h17))
    all_goals first
      | (refine Steps.pure (v := ?_) Keeps.refl rfl (fun f w' hR hV => ⟨?_, ?_⟩) ?_
         rotate_left
         · (obtain ⟨h17, _, _⟩ := hV; replace h17 : f 17 = _ := h17; exact want_yes (t := 30) rfl (by kernel_rfl) rfl h17)
         · (obtain ⟨h17, h29, _⟩ := hV; replace h17 : f 17 = _ := h17; replace h29 : f 29 = _ := h29; obtain ⟨x0, x1, x2⟩ := HSQ.out _ hR; go_simp; all_goals (try with_reducible rfl)))
      | (refine Steps.skip rfl (fun f w' hR hV => ?_) ?_
         · (obtain ⟨h17, _, _⟩ := hV; replace h17 : f 17 = _ := h17; first | exact want_no (t := 30) rfl (by kernel_rfl) rfl h17 rfl | exact want_undef (t := 30) rfl (by kernel_rfl) rfl h17))
    all_goals first
      | (refine Steps.pure (v := ?_) Keeps.refl rfl (fun f w' hR hV => ⟨?_, ?_⟩) ?_
         rotate_left
         · (obtain ⟨h17, _⟩ := hV; replace h17 : f 17 = _ := h17; exact want_yes (t := 30) rfl (by kernel_rfl) rfl h17)
         · (obtain ⟨h17, _⟩ := hV; replace h17 : f 17 = _ := h17; obtain ⟨x0, x1, x2⟩ := HSQ.out _ hR; go_simp; all_goals (try with_reducible rfl)))
      | (refine Steps.skip rfl (fun f w' hR hV => ?_) ?_
         · (obtain ⟨h17, _⟩ := hV; replace h17 : f 17 = _ := h17; first | exact want_no (t := 30) rfl (by kernel_rfl) rfl h17 rfl | exact want_undef (t := 30) rfl (by kernel_rfl) rfl h17))
    all_goals first
      | (refine Steps.pure (v := ?_) Keeps.refl rfl (fun f w' hR hV => ⟨?_, ?_⟩) ?_
         rotate_left
         · (obtain ⟨h17, _, _⟩ := hV; replace h17 : f 17 = _ := h17; exact want_yes (t := 30) rfl (by kernel_rfl) rfl h17)
         · (obtain ⟨h17, h31, _⟩ := hV; replace h17 : f 17 = _ := h17; replace h31 : f 31 = _ := h31; obtain ⟨x0, x1, x2⟩ := HSQ.out _ hR; go_simp; all_goals (try with_reducible rfl)))
      | (refine Steps.skip rfl (fun f w' hR hV => ?_) ?_
         · (obtain ⟨h17, _, _⟩ := hV; replace h17 : f 17 = _ := h17; first | exact want_no (t := 30) rfl (by kernel_rfl) rfl h17 rfl | exact want_undef (t := 30) rfl (by kernel_rfl) rfl h17))
    all_goals first
      | (refine Steps.call (RfV l2) rfl (fun _ _ _ k h => RfV.keeps k h) (fun f w' hR hV => ⟨?_, ?_⟩) ?_
         · (obtain ⟨h17, _, _, _, _, _⟩ := hV; replace h17 : f 17 = _ := h17; exact want_yes (t := 30) rfl (by kernel_rfl) rfl h17)
         · (obtain ⟨h17, h26, h28, h30, h32, _⟩ := hV; replace h17 : f 17 = _ := h17; replace h26 : f 26 = _ := h26; replace h28 : f 28 = _ := h28; replace h30 : f 30 = _ := h30; replace h32 : f 32 = _ := h32; obtain ⟨x0, x1, x2⟩ := HSQ.out _ hR; go_simp; go_at_call 20; refine (HQ.out _ (K2.out.drew.trans hR)).mono ?_; rintro e w3 ⟨v3, rfl, hs3, hk3⟩; exact StepPost.of _ rfl hs3 hk3))
      | (refine Steps.skip rfl (fun f w' hR hV => ?_) ?_
         · (obtain ⟨h17, _, _, _, _, _⟩ := hV; replace h17 : f 17 = _ := h17; first | exact want_no (t := 30) rfl (by kernel_rfl) rfl h17 rfl | exact want_undef (t := 30) rfl (by kernel_rfl) rfl h17))
    all_goals first
      | (refine Steps.call (fun _ v => v = .bool true) rfl (fun _ _ _ _ h => h) (fun f w' hR hV => ⟨?_, ?_⟩) ?_
         · (obtain ⟨h17, _, _, _⟩ := hV; replace h17 : f 17 = _ := h17; exact want_yes (t := 30) rfl (by kernel_rfl) rfl h17)
         · (obtain ⟨h17, h25, h33, _⟩ := hV; replace h17 : f 17 = _ := h17; replace h25 : RfV l2 w' (f 25) := h25; replace h33 : RfV l2 w' (f 33) := h33; obtain ⟨x0, x1, x2⟩ := HSQ.out _ hR; go_simp; obtain ⟨ao3, cap3, b3, e3, hs3⟩ := h25; obtain ⟨ao4, cap4, b4, e4, hs4⟩ := h33; simp only [e3, e4]; go_at_call 16; refine (samer_any l2 _ _ _ _ _ _ _ _ _ hs3 hs4).mono ?_; rintro e w5 ⟨rfl, q5, rfl⟩; exact StepPost.of _ rfl rfl ((Keeps.refl _).drewN _)))
      | (refine Steps.skip rfl (fun f w' hR hV => ?_) ?_
         · (obtain ⟨h17, _, _, _⟩ := hV; replace h17 : f 17 = _ := h17; first | exact want_no (t := 30) rfl (by kernel_rfl) rfl h17 rfl | exact want_undef (t := 30) rfl (by kernel_rfl) rfl h17))
    all_goals (
      refine Steps.pure (v := ?_) Keeps.refl rfl (fun f w' hR hV => ⟨?_, ?_⟩) ?_
      rotate_left
      · (rfl)
      · (obtain ⟨h17, h34, _⟩ := hV; replace h17 : f 17 = _ := h17; replace h34 : f 34 = _ := h34; obtain ⟨x0, x1, x2⟩ := HSQ.out _ hR; go_simp; all_goals (try with_reducible rfl)))
    all_goals (
      refine Steps.pure (v := ?_) Keeps.refl rfl (fun f w' hR hV => ⟨?_, ?_⟩) ?_
      rotate_left
      · (rfl)
      · (obtain ⟨h35, _⟩ := hV; replace h35 : f 35 = _ := h35; obtain ⟨x0, x1, x2⟩ := HSQ.out _ hR; go_simp; all_goals (try with_reducible rfl)))
    all_goals (refine Steps.done [36] (by kernel_rfl) rfl (fun f wq hR hV => ?_); obtain ⟨h36, _⟩ := hV; replace h36 : f 36 = _ := h36; simp only [h36])
    go_wp2_with fail
    go_ret
    exact ⟨rfl, K2.out.trans ((Keeps.refl w2).drew.trans hR)⟩
end Go.Proofs.Ytfddhmhagijodaa
