/- The law on dates: the walk. -/
import Derived.Test.YtfddhmhagijodaaLawPNet
import Derived.Test.YtfddhmhagijodaaPDatQ
namespace Go.Proofs.Ytfddhmhagijodaa
open Go.RowKit
set_option linter.unusedSimpArgs false
set_option linter.unusedVariables false

/-- The value reads as a list of references. -/
def RefV (l : List Rf) (W : World) (v : Value) : Prop := ∃ ao cap b, v = .slice ao l.length cap ∧ Recs W 2 Rf.cells ao l cap b 0
theorem RefV.of {l : List Rf} {W : World} {ao : Option Addr} {cap b : Nat} (h : Recs W 2 Rf.cells ao l cap b 0) : RefV l W (.slice ao l.length cap) := ⟨ao, cap, b, rfl, h⟩
theorem RefV.keeps {l : List Rf} {w1 w2 : World} {v : Value} (k : Keeps w1 w2) (h : RefV l w1 v) : RefV l w2 v := by obtain ⟨ao, cap, b, e, hs⟩ := h; exact ⟨ao, cap, b, e, hs.keeps k⟩
set_option maxRecDepth 100000 in
set_option maxHeartbeats 8000000 in
theorem lawDat_any (bv : List Value) (es : List JV) (ms : List MV) (qe qp qd later : Int) (w : World) (H : Bks w bv es ms) :
    Calls Try.prog 4 #[.agg bv.toArray, .agg #[.int .i64 qe, .int .i64 qp, .int .i64 qd], .int .i64 later] w fun e w' => e = .returned (.bool true) ∧ Keeps w w' := by
  have HB := Lib.hid H
  have hbl := H.len
  have hrg := box_range w bv 36
  have hk0 : Keeps w (w.alloc (.cells bv.toArray 36)) := (Keeps.refl w).alloc _
  have hz0 : (w.alloc (.cells bv.toArray 36)).heap.size = w.heap.size + 1 := by simp
  obtain ⟨W1, hW1⟩ : ∃ W1, w.alloc (.cells bv.toArray 36) = W1 := ⟨_, rfl⟩
  rw [hW1] at hrg hk0 hz0
  have r0 : (W1.alloc (.cells #[.int .i64 qe, .int .i64 qp, .int .i64 qd] 38)).cell? ⟨w.heap.size + 1, 0, none⟩ = some (.int .i64 qe) := by rw [← hz0]; go_simp
  have r1 : (W1.alloc (.cells #[.int .i64 qe, .int .i64 qp, .int .i64 qd] 38)).cell? ⟨w.heap.size + 1, 1, none⟩ = some (.int .i64 qp) := by rw [← hz0]; go_simp
  have r2 : (W1.alloc (.cells #[.int .i64 qe, .int .i64 qp, .int .i64 qd] 38)).cell? ⟨w.heap.size + 1, 2, none⟩ = some (.int .i64 qd) := by rw [← hz0]; go_simp
  have hrg2 := range_keeps hrg ((Keeps.refl W1).alloc (.cells #[.int .i64 qe, .int .i64 qp, .int .i64 qd] 38))
  have HK0 := Lib.hid hk0
  clear hrg hk0
  cases hf : fewB es ms with
  | false =>
    have HF : Hid (∀ W, Keeps w W → Calls Try.prog 11 #[.agg bv.toArray] W fun e w' => e = .returned (.bool false) ∧ Keeps W w') := Lib.hid (fun W hW => by have := few_any bv es ms W (HB.out.keeps hW); rw [hf] at this; exact this)
    clear hf H
    go_enter Try.func4, Try.ntmps4
    go_wp2_with (first | (go_at_call 10; first | (guard_hyp hk1 : _; refine (pawake_any _).mono ?_; rintro e w3 ⟨rfl, hk3⟩) | (refine (pawake_any _).mono ?_; rintro e w1 ⟨rfl, hk1⟩; have hrg1 := range_keeps hrg2 hk1; have s0 := hk1.cell r0; have s1 := hk1.cell r1; have s2 := hk1.cell r2; have K1 := Lib.hid ((HK0.out.alloc (.cells #[.int .i64 qe, .int .i64 qp, .int .i64 qd] 38)).trans hk1))) | (refine wpList_booksG (.tmp 3) rfl rfl w.heap.size bv hbl rfl hrg1 ?_) | (go_at_call 11; refine (HF.out _ K1.out).mono ?_; rintro e w2 ⟨rfl, hk2⟩; have hrgc := range_keeps hrg1 hk2; replace s0 := hk2.cell s0; replace s1 := hk2.cell s1; replace s2 := hk2.cell s2; have K2 := Lib.hid (K1.out.trans hk2)))
    go_ret
    exact ⟨rfl, K2.out.trans hk3⟩
  | true =>
    obtain ⟨hl8, hn40, _, _⟩ := fewB_spec hf
    have HF : Hid (∀ W, Keeps w W → Calls Try.prog 11 #[.agg bv.toArray] W fun e w' => e = .returned (.bool true) ∧ Keeps W w') := Lib.hid (fun W hW => by have := few_any bv es ms W (HB.out.keeps hW); rw [hf] at this; exact this)
    by_cases hlt : later < qd
    · have el : decide (later < qd) = true := by simpa using hlt
      clear hf H hl8 hn40 hlt
      go_enter Try.func4, Try.ntmps4
      go_wp2_with (first | (go_at_call 10; first | (guard_hyp hk1 : _; refine (pawake_any _).mono ?_; rintro e w3 ⟨rfl, hk3⟩) | (refine (pawake_any _).mono ?_; rintro e w1 ⟨rfl, hk1⟩; have hrg1 := range_keeps hrg2 hk1; have s0 := hk1.cell r0; have s1 := hk1.cell r1; have s2 := hk1.cell r2; have K1 := Lib.hid ((HK0.out.alloc (.cells #[.int .i64 qe, .int .i64 qp, .int .i64 qd] 38)).trans hk1))) | (refine wpList_booksG (.tmp 3) rfl rfl w.heap.size bv hbl rfl hrg1 ?_) | (go_at_call 11; refine (HF.out _ K1.out).mono ?_; rintro e w2 ⟨rfl, hk2⟩; have hrgc := range_keeps hrg1 hk2; replace s0 := hk2.cell s0; replace s1 := hk2.cell s1; replace s2 := hk2.cell s2; have K2 := Lib.hid (K1.out.trans hk2)))
      go_ret
      exact ⟨rfl, K2.out.trans hk3⟩
    · have el : decide (later < qd) = false := by simpa using hlt
      have hdl : qd ≤ later := by omega
      obtain ⟨X, hX⟩ : ∃ X, linesP qd qe qp (es.map JV.x) = X := ⟨_, rfl⟩
      obtain ⟨Y, hY⟩ : ∃ Y, linesP later qe qp (es.map JV.x) = Y := ⟨_, rfl⟩
      have HXY : Hid (X = Y.take X.length) := Lib.hid (by rw [← hX, ← hY]; exact linesP_early hdl _)
      have hLN : ∀ d W, Keeps w W → Calls Try.prog 15 #[.agg bv.toArray, .int .i64 qe, .int .i64 qp, .int .i64 d] W fun e w' => ∃ ao cap b, e = .returned (.slice ao (linesP d qe qp (es.map JV.x)).length cap) ∧ Recs w' 2 Rf.cells ao (linesP d qe qp (es.map JV.x)) cap b 0 ∧ Keeps W w' := fun d W hW => by
        obtain ⟨ao, cap, b, o, he, hj⟩ := HB.out.ents
        refine (lines_any bv hbl HB.out.one es ao cap b o he qe qp d W (hj.keeps hW) (by omega) hl8).mono ?_
        rintro e w' ⟨v, rfl, ho, hk⟩
        obtain ⟨ao2, cap2, b2, rfl, hs⟩ := Sl.own ho
        exact ⟨ao2, cap2, b2, rfl, hs, hk⟩
      have HL1 := Lib.hid (hLN qd)
      have HL2 := Lib.hid (hLN later)
      rw [hX] at HL1
      rw [hY] at HL2
      clear hLN hf H hX hY
      go_enter Try.func4, Try.ntmps4
      go_wp2_with (first | (go_at_call 10; refine (pawake_any _).mono ?_; rintro e w1 ⟨rfl, hk1⟩; have hrg1 := range_keeps hrg2 hk1; have s0 := hk1.cell r0; have s1 := hk1.cell r1; have s2 := hk1.cell r2; have K1 := Lib.hid ((HK0.out.alloc (.cells #[.int .i64 qe, .int .i64 qp, .int .i64 qd] 38)).trans hk1)) | (refine wpList_booksG (.tmp 3) rfl rfl w.heap.size bv hbl rfl hrg1 ?_) | (go_at_call 11; refine (HF.out _ K1.out).mono ?_; rintro e w2 ⟨rfl, hk2⟩; have hrgc := range_keeps hrg1 hk2; replace s0 := hk2.cell s0; replace s1 := hk2.cell s1; replace s2 := hk2.cell s2; have K2 := Lib.hid (K1.out.trans hk2)))
      have HRG : Hid (∀ W, Keeps w2.drew W → W.rangeAt w.heap.size 0 bv) := Lib.hid (fun W hW => range_keeps (show w2.drew.rangeAt w.heap.size 0 bv from hrgc) hW)
      have HSQ : Hid (∀ W, Keeps w2.drew W → W.cell? ⟨w.heap.size + 1, 0, none⟩ = some (.int .i64 qe) ∧ W.cell? ⟨w.heap.size + 1, 1, none⟩ = some (.int .i64 qp) ∧ W.cell? ⟨w.heap.size + 1, 2, none⟩ = some (.int .i64 qd)) := Lib.hid (fun W hW => ⟨hW.cell s0, hW.cell s1, hW.cell s2⟩)
      clear hrg1 hrg2 hrgc s0 s1 s2 r0 r1 r2
      refine wp_region_steps (A := ?_) Keeps [some 31, some 32, some 33, some 34, some 35, some 36, some 37, some 38, some 39, some 40, some 41, some 42, some 43, some 44, some 45, some 7, some 8] [[], [], [1], [], [3], [], [5], [0, 2, 4, 6], [], [], [9], [], [11], [], [8, 10, 12, 13], [7], [14]] 17 (by kernel_rfl) (by kernel_rfl) (by kernel_rfl) (by kernel_rfl) (by kernel_rfl) (by kernel_rfl) Keeps.refl (fun _ _ _ => Keeps.trans) ?_ ?_
      rotate_left
      · intro f; simp only [putL, Act.put, List.setIfInBounds_toArray, List.set_cons_zero, List.set_cons_succ, Nat.zero_add, Nat.reduceAdd]; exact rfl
      refine Steps.pure (v := .agg bv.toArray) Keeps.refl rfl (fun f w' hR hV => ⟨?_, ?_⟩) ?_
      · (rfl)
      · (clear hV; obtain ⟨x0, x1, x2⟩ := HSQ.out _ hR; exact exec_load_mid 36 (.tmp 3) rfl _ w.heap.size 0 bv rfl (HRG.out _ hR) Try.underlying36 rfl (by rw [hbl]; exact booksSize))
      refine Steps.pure (v := ?_) Keeps.refl rfl (fun f w' hR hV => ⟨?_, ?_⟩) ?_
      rotate_left
      · (rfl)
      · (clear hV; obtain ⟨x0, x1, x2⟩ := HSQ.out _ hR; go_simp; all_goals (try with_reducible rfl))
      refine Steps.pure (v := ?_) Keeps.refl rfl (fun f w' hR hV => ⟨?_, ?_⟩) ?_
      rotate_left
      · (rfl)
      · (obtain ⟨h1, _⟩ := hV; replace h1 : f 1 = _ := h1; obtain ⟨x0, x1, x2⟩ := HSQ.out _ hR; go_simp; all_goals (try with_reducible rfl))
      refine Steps.pure (v := ?_) Keeps.refl rfl (fun f w' hR hV => ⟨?_, ?_⟩) ?_
      rotate_left
      · (rfl)
      · (clear hV; obtain ⟨x0, x1, x2⟩ := HSQ.out _ hR; go_simp; all_goals (try with_reducible rfl))
      refine Steps.pure (v := ?_) Keeps.refl rfl (fun f w' hR hV => ⟨?_, ?_⟩) ?_
      rotate_left
      · (rfl)
      · (obtain ⟨h3, _⟩ := hV; replace h3 : f 3 = _ := h3; obtain ⟨x0, x1, x2⟩ := HSQ.out _ hR; go_simp; all_goals (try with_reducible rfl))
      refine Steps.pure (v := ?_) Keeps.refl rfl (fun f w' hR hV => ⟨?_, ?_⟩) ?_
      rotate_left
      · (rfl)
      · (clear hV; obtain ⟨x0, x1, x2⟩ := HSQ.out _ hR; go_simp; all_goals (try with_reducible rfl))
      refine Steps.pure (v := ?_) Keeps.refl rfl (fun f w' hR hV => ⟨?_, ?_⟩) ?_
      rotate_left
      · (rfl)
      · (obtain ⟨h5, _⟩ := hV; replace h5 : f 5 = _ := h5; obtain ⟨x0, x1, x2⟩ := HSQ.out _ hR; go_simp; all_goals (try with_reducible rfl))
      refine Steps.call (RefV X) rfl (fun _ _ _ k h => RefV.keeps k h) (fun f w' hR hV => ⟨?_, ?_⟩) ?_
      · (rfl)
      · (obtain ⟨h0, h2, h4, h6, _⟩ := hV; replace h0 : f 0 = _ := h0; replace h2 : f 2 = _ := h2; replace h4 : f 4 = _ := h4; replace h6 : f 6 = _ := h6; obtain ⟨x0, x1, x2⟩ := HSQ.out _ hR; go_simp; go_at_call 15; refine (HL1.out _ (K2.out.drew.trans hR)).mono ?_; rintro e w3 ⟨ao3, cap3, b3, rfl, hs3, hk3⟩; exact StepPost.of _ rfl (RefV.of hs3) hk3)
      refine Steps.pure (v := .agg bv.toArray) Keeps.refl rfl (fun f w' hR hV => ⟨?_, ?_⟩) ?_
      · (rfl)
      · (clear hV; obtain ⟨x0, x1, x2⟩ := HSQ.out _ hR; exact exec_load_mid 36 (.tmp 3) rfl _ w.heap.size 0 bv rfl (HRG.out _ hR) Try.underlying36 rfl (by rw [hbl]; exact booksSize))
      refine Steps.pure (v := ?_) Keeps.refl rfl (fun f w' hR hV => ⟨?_, ?_⟩) ?_
      rotate_left
      · (rfl)
      · (clear hV; obtain ⟨x0, x1, x2⟩ := HSQ.out _ hR; go_simp; all_goals (try with_reducible rfl))
      refine Steps.pure (v := ?_) Keeps.refl rfl (fun f w' hR hV => ⟨?_, ?_⟩) ?_
      rotate_left
      · (rfl)
      · (obtain ⟨h9, _⟩ := hV; replace h9 : f 9 = _ := h9; obtain ⟨x0, x1, x2⟩ := HSQ.out _ hR; go_simp; all_goals (try with_reducible rfl))
      refine Steps.pure (v := ?_) Keeps.refl rfl (fun f w' hR hV => ⟨?_, ?_⟩) ?_
      rotate_left
      · (rfl)
      · (clear hV; obtain ⟨x0, x1, x2⟩ := HSQ.out _ hR; go_simp; all_goals (try with_reducible rfl))
      refine Steps.pure (v := ?_) Keeps.refl rfl (fun f w' hR hV => ⟨?_, ?_⟩) ?_
      rotate_left
      · (rfl)
      · (obtain ⟨h11, _⟩ := hV; replace h11 : f 11 = _ := h11; obtain ⟨x0, x1, x2⟩ := HSQ.out _ hR; go_simp; all_goals (try with_reducible rfl))
      refine Steps.pure (v := ?_) Keeps.refl rfl (fun f w' hR hV => ⟨?_, ?_⟩) ?_
      rotate_left
      · (rfl)
      · (clear hV; obtain ⟨x0, x1, x2⟩ := HSQ.out _ hR; go_simp; all_goals (try with_reducible rfl))
      refine Steps.call (RefV Y) rfl (fun _ _ _ k h => RefV.keeps k h) (fun f w' hR hV => ⟨?_, ?_⟩) ?_
      · (rfl)
      · (obtain ⟨h8, h10, h12, h13, _⟩ := hV; replace h8 : f 8 = _ := h8; replace h10 : f 10 = _ := h10; replace h12 : f 12 = _ := h12; replace h13 : f 13 = _ := h13; obtain ⟨x0, x1, x2⟩ := HSQ.out _ hR; go_simp; go_at_call 15; refine (HL2.out _ (K2.out.drew.trans hR)).mono ?_; rintro e w3 ⟨ao3, cap3, b3, rfl, hs3, hk3⟩; exact StepPost.of _ rfl (RefV.of hs3) hk3)
      refine Steps.call (RefV X) rfl (fun _ _ _ k h => RefV.keeps k h) (fun f w' hR hV => ⟨?_, ?_⟩) ?_
      · (rfl)
      · (obtain ⟨h7, _⟩ := hV; replace h7 : RefV X w' (f 7) := h7; obtain ⟨x0, x1, x2⟩ := HSQ.out _ hR; go_simp; exact StepPost.of _ rfl h7 (Keeps.refl _))
      refine Steps.call (RefV Y) rfl (fun _ _ _ k h => RefV.keeps k h) (fun f w' hR hV => ⟨?_, ?_⟩) ?_
      · (rfl)
      · (obtain ⟨h14, _⟩ := hV; replace h14 : RefV Y w' (f 14) := h14; obtain ⟨x0, x1, x2⟩ := HSQ.out _ hR; go_simp; exact StepPost.of _ rfl h14 (Keeps.refl _))
      all_goals (refine Steps.done [15, 16] (by kernel_rfl) rfl (fun f wq hR hV => ?_); obtain ⟨h15, h16, _⟩ := hV; replace h15 : RefV X wq (f 15) := h15; replace h16 : RefV Y wq (f 16) := h16)
      obtain ⟨ao3, cap3, b3, e3, hs3⟩ := h15
      obtain ⟨ao4, cap4, b4, e4, hs4⟩ := h16
      simp only [e3, e4]
      have hle3 := Sl.le hs3
      have hle4 := Sl.le hs4
      have hcap3 := Sl.cap hs3
      have hcap4 := Sl.cap hs4
      have hXY : X.length ≤ Y.length := by have := congrArg List.length HXY.out; rw [List.length_take] at this; omega
      have egt : decide ((Y.length : Int) < (X.length : Int)) = false := by simp; omega
      have hct := run_cutTo Try.underlying45 Try.sizeOf59 ao4 Y.length cap4 X.length (by omega) hcap4
      have HS4 : Hid (Recs wq 2 Rf.cells ao4 X cap4 b4 0) := Lib.hid (by
        have h := Sl.take hs4 X.length hXY
        rw [← flat_takeP Rf.len, ← HXY.out] at h
        exact h)
      have HS3 := Lib.hid hs3
      have HKQ := Lib.hid (K2.out.trans ((Keeps.refl w2).drew.trans hR))
      have HRGQ := Lib.hid (HRG.out _ hR)
      obtain ⟨s0, s1, s2⟩ := HSQ.out _ hR
      clear hs3 hs4 HXY e3 e4 hR HRG HSQ
      obtain ⟨aoE, capE, bE, oE, heE, hjE⟩ := HB.out.ents
      have HJE : Hid (∀ W, Keeps wq W → Jrns W es aoE capE bE oE) := Lib.hid (fun W hW => hjE.keeps (HKQ.out.trans hW))
      have hleE := Sl.le hjE.row
      have hcapE := Sl.cap hjE.row
      have HSW : Hid (∀ W, Keeps wq W → W.cell? ⟨w.heap.size + 1, 0, none⟩ = some (.int .i64 qe) ∧ W.cell? ⟨w.heap.size + 1, 1, none⟩ = some (.int .i64 qp) ∧ W.cell? ⟨w.heap.size + 1, 2, none⟩ = some (.int .i64 qd)) := Lib.hid (fun W hW => ⟨hW.cell s0, hW.cell s1, hW.cell s2⟩)
      obtain ⟨N, hN⟩ : ∃ N, wq.heap.size = N := ⟨_, rfl⟩
      have HNN := Lib.hid hN
      have hNw : w.heap.size + 1 < N := by have := World.block_lt_of_cell? _ _ s0; simp only at this; omega
      clear hjE s0 s1 s2 hN
      go_wp2_with (go_at_call 16; refine (samer_any X _ _ _ _ _ _ _ _ _ HS3.out HS4.out).mono ?_; rintro e w3 ⟨rfl, q3, rfl⟩; obtain ⟨W9, hW9⟩ : ∃ W9, (wq.drewN q3).alloc (.cells #[.string ⟨#[]⟩, .int .i64 0, .int .i64 0, .int .i64 0, .slice none 0 0, .int .i64 0, .int .i64 0, .int .i64 0, .int .i64 0, .int .i64 0, .int .i64 0, .int .i64 0, .int .i64 0, .int .i64 0, .int .i64 0, .int .i64 0, .int .i64 0, .int .i64 0, .int .i64 0, .int .i64 0, .slice none 0 0, .slice none 0 0, .slice none 0 0, .slice none 0 0, .slice none 0 0, .slice none 0 0, .string ⟨#[]⟩] 36) = W9 := ⟨_, rfl⟩; have HR9 : Hid (RBx W9 N (.slice none 0 0) [] ∧ Keeps wq W9 ∧ W9.heap.size = N + 1) := Lib.hid (by rw [← hW9, ← HNN.out]; exact ⟨RBx.new (wq.drewN q3) 36, ((Keeps.refl wq).drewN q3).alloc _, by simp⟩); have c21 := range_keeps HRGQ.out HR9.out.2.1 21 _ heE; simp only [Nat.zero_add] at c21)
      have hNq := HNN.out
      subst hNq
      obtain ⟨hr9, hk9, hz9⟩ := HR9.out
      have HC9 := Lib.hid c21
      have HR9b := Lib.hid hr9
      have HK9 := Lib.hid hk9
      clear hr9 hk9 c21 HR9 hW9
      go_loopw [63] (fun vi wr => ∃ (k m : Nat) (v : Value), k ≤ es.length ∧ m ≤ k ∧ vi = .int .i64 k ∧ Hid (((es.take k).filter (fun e => decide (e.x.date > qd))).length = m) ∧ Hid (Keeps wq wr ∧ wq.heap.size + 1 ≤ wr.heap.size ∧ RBx wr wq.heap.size v ((es.take k).filter (fun e => decide (e.x.date > qd))))) (fun vi _ => es.length - (intOf vi).toNat)
      case atStart => exact ⟨0, 0, _, Nat.zero_le _, Nat.le_refl _, rfl, Lib.hid rfl, Lib.hid ⟨HK9.out, by omega, HR9b.out⟩⟩
      case round =>
        obtain ⟨k, m, v, hk, hmk, rfl, HM, HV⟩ := hrel
        obtain ⟨_, _, s2⟩ := HSW.out _ HV.out.1
        have hzr := HV.out.2.1
        by_cases hlt : k < es.length
        · have hr := (HJE.out _ HV.out.1).row
          have hix := Sl.at hr Try.underlying30 Try.sizeOf50 k hlt
          obtain ⟨y, hy⟩ : ∃ y, es[k] = y := ⟨_, rfl⟩
          have d0 := hr.cell JV.len k hlt 0 (.int .i64 y.x.id) (by rw [hy]; rfl)
          rw [Nat.add_zero] at d0
          have d1 := hr.cell JV.len k hlt 1 (.int .i64 y.x.ent) (by rw [hy]; rfl)
          have d2 := hr.cell JV.len k hlt 2 (.int .i64 y.x.date) (by rw [hy]; rfl)
          have d3 := hr.cell JV.len k hlt 3 (.int .i64 y.x.kind) (by rw [hy]; rfl)
          have d4 := hr.cell JV.len k hlt 4 (.int .i64 y.x.of_) (by rw [hy]; rfl)
          have d5 := hr.cell JV.len k hlt 5 (.string y.x.text) (by rw [hy]; rfl)
          have d6 := hr.cell JV.len k hlt 6 (.slice y.a y.x.lines.length y.c) (by rw [hy]; rfl)
          have hbs := World.block_lt_of_cell? _ _ s2
          simp only at hbs
          have HT : Hid ((es.take (k + 1)).filter (fun e => decide (e.x.date > qd)) = if y.x.date > qd then (es.take k).filter (fun e => decide (e.x.date > qd)) ++ [y] else (es.take k).filter (fun e => decide (e.x.date > qd))) := Lib.hid (by
            rw [take_snoc _ k hlt, hy, List.filter_append]
            by_cases hg : y.x.date > qd <;> simp [hg])
          clear hr hy
          by_cases hd : y.x.date > qd
          · have ed : decide (qd < y.x.date) = true := by simpa using hd
            rw [if_pos hd] at HT
            have c21 := HV.out.2.2.2.1 21 v rfl
            simp only [Nat.zero_add] at c21
            have hbn := World.block_lt_of_cell? _ _ c21
            simp only at hbn
            clear hd
            go_wp2_with (at_builtin; (refine wpList_app_rawR elemJV rfl (.tmp 73) (.tmp 75) rfl v _ _ rfl (wq.heap.size + 1) (HV.out.2.2.1.alloc (.cells #[.int .i64 y.x.id, .int .i64 y.x.ent, .int .i64 y.x.date, .int .i64 y.x.kind, .int .i64 y.x.of_, .string y.x.text, .slice y.a y.x.lines.length y.c] 50)) (by simp; omega) [.int .i64 y.x.id, .int .i64 y.x.ent, .int .i64 y.x.date, .int .i64 y.x.kind, .int .i64 y.x.of_, .string y.x.text, .slice y.a y.x.lines.length y.c] (wr.heap.size + 1) 1 rfl (by simp) rfl (JV.one y) (by rw [HM.out]; omega) (by rw [HM.out]; omega) ?_); intro v' w' ho hg hat; have hB : Below (wq.heap.size + 1) wr w' := Below.grown (((Below.refl _ wr).alloc hzr _).alloc (by simp; omega) _) hg (by simp; omega) (fun j hj => (HV.out.2.2.1.lt j hj).1); have cN := (hB.cell (p := ⟨wq.heap.size, 21, none⟩) (by simp)).trans c21; have fN := (hB.frozen (p := ⟨wq.heap.size, 21, none⟩) (by simp)).trans (by have := (HV.out.2.2.2.2 21 (by omega)).2; simpa using this); have HST := Lib.hid (RBx.store HV.out.2.2 hB ho); obtain ⟨aoV, capV, bV, eV, _⟩ := Sl.own ho; subst eV; have HBB := Lib.hid hB; have hzw := hB.size; clear hB ho hg hat)
            go_roundw
            case rel => exact ⟨k + 1, by omega, m + 1, by omega, by omega, Lib.hid (by have h := congrArg List.length HT.out; rw [List.length_append, HM.out] at h; exact h), _, Lib.hid ⟨Keeps.setCell (p := ⟨wq.heap.size, 21, none⟩) (show Keeps wq _ from Below.trans HV.out.1 (HBB.out.mono (by omega))) (Nat.le_refl _) _, by omega, by have h := HST.out; rw [← HT.out] at h; exact h⟩⟩
            case measure => simp [intOf]; omega
          · have ed : decide (qd < y.x.date) = false := by simpa using hd
            rw [if_neg hd] at HT
            clear hd
            go_wp2_with fail
            go_roundw
            case rel => exact ⟨k + 1, m, v, by omega, by omega, by go_num, Lib.hid (by rw [HT.out]; exact HM.out), Lib.hid ⟨HV.out.1.alloc _, by simp; omega, by rw [HT.out]; exact HV.out.2.2.keeps ((Keeps.refl _).alloc _)⟩⟩
            case measure => simp [intOf]; omega
        · obtain rfl : k = es.length := by omega
          obtain ⟨RS, hRS⟩ : ∃ RS, es.filter (fun e => decide (e.x.date > qd)) = RS := ⟨_, rfl⟩
          have hv := HV.out.2.2
          rw [List.take_length, hRS] at hv
          have hmem : ∀ e ∈ RS, e ∈ es := fun e he => by rw [← hRS] at he; exact (List.mem_filter.1 he).1
          have hRl : RS.length ≤ es.length := by rw [← hRS]; exact List.length_filter_le _ _
          have hmap : RS.map JV.x = (es.map JV.x).filter (fun x => decide (x.date > qd)) := by rw [← hRS, List.filter_map]; rfl
          obtain ⟨aoR, capR, bR, eR, hsR⟩ := Sl.own hv.1
          subst eR
          have HKV := Lib.hid HV.out.1
          have HRB : Hid (∀ W, Keeps wr.drew W → W.rangeAt wq.heap.size 0 (bkC (.slice aoR RS.length capR) (.slice none 0 0))) := Lib.hid (fun W hW => range_keeps (show wr.drew.rangeAt _ _ _ from hv.2.1) hW)
          have HRG3 : Hid (∀ W, Keeps wr.drew W → W.rangeAt w.heap.size 0 bv) := Lib.hid (fun W hW => range_keeps HRGQ.out (HKV.out.drew.trans hW))
          have HSQ3 : Hid (∀ W, Keeps wr.drew W → W.cell? ⟨w.heap.size + 1, 0, none⟩ = some (.int .i64 qe) ∧ W.cell? ⟨w.heap.size + 1, 1, none⟩ = some (.int .i64 qp) ∧ W.cell? ⟨w.heap.size + 1, 2, none⟩ = some (.int .i64 qd)) := Lib.hid (fun W hW => HSW.out W (HKV.out.drew.trans hW))
          obtain ⟨g1, hg1⟩ : ∃ g, nzN (netR (rbtw qd qe qp es)) = g := ⟨_, rfl⟩
          obtain ⟨g2, hg2⟩ : ∃ g, nzN (netR (rbtw later qe qp RS)) = g := ⟨_, rfl⟩
          obtain ⟨g3, hg3⟩ : ∃ g, nzN (netR (rbtw later qe qp es)) = g := ⟨_, rfl⟩
          have z1 := rnet_is bv es ms qe qp qd w HB.out hl8
          have z3 := rnet_is bv es ms qe qp later w HB.out hl8
          have z2 : NetZ (btw later qe qp (RS.map JV.x)) (nzN (netR (rbtw later qe qp RS))) := by
            rw [← rbtw_plc]
            refine (netR_is _ fun p hp => ?_).nz
            have h2 : p.plc ∈ btw later qe qp (RS.map JV.x) := by rw [← rbtw_plc]; exact List.mem_map_of_mem hp
            exact (btw_ok (fun x hx => by obtain ⟨e, he, rfl⟩ := List.mem_map.1 hx; exact ⟨HB.out.ok e (hmem e he), hl8 e (hmem e he)⟩) _ h2).2.2.1
          rw [hg1] at z1
          rw [hg2] at z2
          rw [hg3] at z3
          have hln : ∀ d (E : List JV), (∀ e ∈ E, e.x.lines.length ≤ 8) → E.length ≤ 40 → (nzN (netR (rbtw d qe qp E))).length ≤ 320 := fun d E h8 h40 => by
            have h3 := rbtw_len d qe qp E h8
            have h4 := netR_len (rbtw d qe qp E)
            have h5 : (nzN (netR (rbtw d qe qp E))).length ≤ (netR (rbtw d qe qp E)).length := List.length_filter_le _ _
            omega
          have n1 : g1.length ≤ 320 := by rw [← hg1]; exact hln _ _ hl8 hn40
          have n2 : g2.length ≤ 320 := by rw [← hg2]; exact hln _ _ (fun e he => hl8 e (hmem e he)) (by omega)
          have n3 : g3.length ≤ 320 := by rw [← hg3]; exact hln _ _ hl8 hn40
          have HDS : Hid (∀ c, wrap64 (ofW g1 c + ofW g2 c) = ofW g3 c) := Lib.hid (fun c => by rw [← wr64_eq]; rw [hmap] at z2; exact dates_sum hdl (es.map JV.x) z1 z2 z3 c)
          have hNB : ∀ d g, NetZ (btw d qe qp (es.map JV.x)) g → ∀ W, Keeps wr.drew W → Calls Try.prog 13 #[.agg bv.toArray, .int .i64 qe, .int .i64 qp, .int .i64 d] W fun e w' => ∃ ao cap b, e = .returned (.slice ao g.length cap) ∧ Recs w' 2 Bal.cells ao g cap b 0 ∧ Keeps W w' := fun d g hz W hW => by
            refine (net_any bv hbl HB.out.one es aoE capE bE oE heE qe qp d W (HJE.out W (HKV.out.drew.trans hW)) (by omega) hl8 HB.out.ok).mono ?_
            rintro e w' ⟨v, l2, rfl, hn2, ho, hk, _⟩
            obtain rfl := hz.unique hn2
            obtain ⟨ao2, cap2, b2, rfl, hs⟩ := Sl.own ho
            exact ⟨ao2, cap2, b2, rfl, hs, hk⟩
          have HN1 := Lib.hid (hNB qd g1 z1)
          have HN3 := Lib.hid (hNB later g3 z3)
          have HN2 : Hid (∀ W, Keeps wr.drew W → Calls Try.prog 13 #[.agg (bkC (.slice aoR RS.length capR) (.slice none 0 0)).toArray, .int .i64 qe, .int .i64 qp, .int .i64 later] W fun e w' => ∃ ao cap b, e = .returned (.slice ao g2.length cap) ∧ Recs w' 2 Bal.cells ao g2 cap b 0 ∧ Keeps W w') := Lib.hid (fun W hW => by
            refine (net_any (bkC (.slice aoR RS.length capR) (.slice none 0 0)) rfl (bkC_one _ _ rfl rfl) RS aoR capR bR 0 rfl qe qp later W ⟨hsR.keeps ((Keeps.refl wr).drew.trans hW), fun e he => (HJE.out W (HKV.out.drew.trans hW)).lines e (hmem e he)⟩ (by omega) (fun e he => hl8 e (hmem e he)) (fun e he => HB.out.ok e (hmem e he))).mono ?_
            rintro e w' ⟨v, l2, rfl, hn2, ho, hk, _⟩
            obtain rfl := z2.unique hn2
            obtain ⟨ao2, cap2, b2, rfl, hs⟩ := Sl.own ho
            exact ⟨ao2, cap2, b2, rfl, hs, hk⟩)
          clear hNB z1 z2 z3 hg1 hg2 hg3 hln hmap hv hRS hsR hmem HV HM
          go_wp2_with fail
          refine wp_region_steps (A := ?_) Keeps [some 79, some 80, some 81, some 82, some 83, some 84, some 85, some 86, some 87, some 88, some 89, some 90, some 91, some 92, some 93, some 94, some 95, some 96, some 97, some 98, some 99, some 100, some 12, some 13, some 14] [[], [], [1], [], [3], [], [5], [0, 2, 4, 6], [], [], [9], [], [11], [], [8, 10, 12, 13], [], [], [16], [], [18], [], [15, 17, 19, 20], [7], [14], [21]] 25 (by kernel_rfl) (by kernel_rfl) (by kernel_rfl) (by kernel_rfl) (by kernel_rfl) (by kernel_rfl) Keeps.refl (fun _ _ _ => Keeps.trans) ?_ ?_
          rotate_left
          · intro f; simp only [putL, Act.put, List.setIfInBounds_toArray, List.set_cons_zero, List.set_cons_succ, Nat.zero_add, Nat.reduceAdd]; exact rfl
          refine Steps.pure (v := .agg bv.toArray) Keeps.refl rfl (fun f w' hR hV => ⟨?_, ?_⟩) ?_
          · (rfl)
          · (clear hV; obtain ⟨x0, x1, x2⟩ := HSQ3.out _ hR; exact exec_load_mid 36 (.tmp 3) rfl _ w.heap.size 0 bv rfl (HRG3.out _ hR) Try.underlying36 rfl (by rw [hbl]; exact booksSize))
          refine Steps.pure (v := ?_) Keeps.refl rfl (fun f w' hR hV => ⟨?_, ?_⟩) ?_
          rotate_left
          · (rfl)
          · (clear hV; obtain ⟨x0, x1, x2⟩ := HSQ3.out _ hR; go_simp; all_goals (try with_reducible rfl))
          refine Steps.pure (v := ?_) Keeps.refl rfl (fun f w' hR hV => ⟨?_, ?_⟩) ?_
          rotate_left
          · (rfl)
          · (obtain ⟨h1, _⟩ := hV; replace h1 : f 1 = _ := h1; obtain ⟨x0, x1, x2⟩ := HSQ3.out _ hR; go_simp; all_goals (try with_reducible rfl))
          refine Steps.pure (v := ?_) Keeps.refl rfl (fun f w' hR hV => ⟨?_, ?_⟩) ?_
          rotate_left
          · (rfl)
          · (clear hV; obtain ⟨x0, x1, x2⟩ := HSQ3.out _ hR; go_simp; all_goals (try with_reducible rfl))
          refine Steps.pure (v := ?_) Keeps.refl rfl (fun f w' hR hV => ⟨?_, ?_⟩) ?_
          rotate_left
          · (rfl)
          · (obtain ⟨h3, _⟩ := hV; replace h3 : f 3 = _ := h3; obtain ⟨x0, x1, x2⟩ := HSQ3.out _ hR; go_simp; all_goals (try with_reducible rfl))
          refine Steps.pure (v := ?_) Keeps.refl rfl (fun f w' hR hV => ⟨?_, ?_⟩) ?_
          rotate_left
          · (rfl)
          · (clear hV; obtain ⟨x0, x1, x2⟩ := HSQ3.out _ hR; go_simp; all_goals (try with_reducible rfl))
          refine Steps.pure (v := ?_) Keeps.refl rfl (fun f w' hR hV => ⟨?_, ?_⟩) ?_
          rotate_left
          · (rfl)
          · (obtain ⟨h5, _⟩ := hV; replace h5 : f 5 = _ := h5; obtain ⟨x0, x1, x2⟩ := HSQ3.out _ hR; go_simp; all_goals (try with_reducible rfl))
          refine Steps.call (BalV g1) rfl (fun _ _ _ k h => BalV.keeps k h) (fun f w' hR hV => ⟨?_, ?_⟩) ?_
          · (rfl)
          · (obtain ⟨h0, h2, h4, h6, _⟩ := hV; replace h0 : f 0 = _ := h0; replace h2 : f 2 = _ := h2; replace h4 : f 4 = _ := h4; replace h6 : f 6 = _ := h6; obtain ⟨x0, x1, x2⟩ := HSQ3.out _ hR; go_simp; go_at_call 13; refine (HN1.out _ hR).mono ?_; rintro e w3 ⟨ao3, cap3, b3, rfl, hs3, hk3⟩; exact StepPost.of _ rfl (BalV.of hs3) hk3)
          refine Steps.pure (v := .agg (bkC (.slice aoR RS.length capR) (.slice none 0 0)).toArray) Keeps.refl rfl (fun f w' hR hV => ⟨?_, ?_⟩) ?_
          · (rfl)
          · (clear hV; obtain ⟨x0, x1, x2⟩ := HSQ3.out _ hR; exact exec_load_mid 36 (.tmp 9) rfl _ wq.heap.size 0 (bkC (.slice aoR RS.length capR) (.slice none 0 0)) rfl (HRB.out _ hR) Try.underlying36 rfl booksSize)
          refine Steps.pure (v := ?_) Keeps.refl rfl (fun f w' hR hV => ⟨?_, ?_⟩) ?_
          rotate_left
          · (rfl)
          · (clear hV; obtain ⟨x0, x1, x2⟩ := HSQ3.out _ hR; go_simp; all_goals (try with_reducible rfl))
          refine Steps.pure (v := ?_) Keeps.refl rfl (fun f w' hR hV => ⟨?_, ?_⟩) ?_
          rotate_left
          · (rfl)
          · (obtain ⟨h9, _⟩ := hV; replace h9 : f 9 = _ := h9; obtain ⟨x0, x1, x2⟩ := HSQ3.out _ hR; go_simp; all_goals (try with_reducible rfl))
          refine Steps.pure (v := ?_) Keeps.refl rfl (fun f w' hR hV => ⟨?_, ?_⟩) ?_
          rotate_left
          · (rfl)
          · (clear hV; obtain ⟨x0, x1, x2⟩ := HSQ3.out _ hR; go_simp; all_goals (try with_reducible rfl))
          refine Steps.pure (v := ?_) Keeps.refl rfl (fun f w' hR hV => ⟨?_, ?_⟩) ?_
          rotate_left
          · (rfl)
          · (obtain ⟨h11, _⟩ := hV; replace h11 : f 11 = _ := h11; obtain ⟨x0, x1, x2⟩ := HSQ3.out _ hR; go_simp; all_goals (try with_reducible rfl))
          refine Steps.pure (v := ?_) Keeps.refl rfl (fun f w' hR hV => ⟨?_, ?_⟩) ?_
          rotate_left
          · (rfl)
          · (clear hV; obtain ⟨x0, x1, x2⟩ := HSQ3.out _ hR; go_simp; all_goals (try with_reducible rfl))
          refine Steps.call (BalV g2) rfl (fun _ _ _ k h => BalV.keeps k h) (fun f w' hR hV => ⟨?_, ?_⟩) ?_
          · (rfl)
          · (obtain ⟨h8, h10, h12, h13, _⟩ := hV; replace h8 : f 8 = _ := h8; replace h10 : f 10 = _ := h10; replace h12 : f 12 = _ := h12; replace h13 : f 13 = _ := h13; obtain ⟨x0, x1, x2⟩ := HSQ3.out _ hR; go_simp; go_at_call 13; refine (HN2.out _ hR).mono ?_; rintro e w3 ⟨ao3, cap3, b3, rfl, hs3, hk3⟩; exact StepPost.of _ rfl (BalV.of hs3) hk3)
          refine Steps.pure (v := .agg bv.toArray) Keeps.refl rfl (fun f w' hR hV => ⟨?_, ?_⟩) ?_
          · (rfl)
          · (clear hV; obtain ⟨x0, x1, x2⟩ := HSQ3.out _ hR; exact exec_load_mid 36 (.tmp 3) rfl _ w.heap.size 0 bv rfl (HRG3.out _ hR) Try.underlying36 rfl (by rw [hbl]; exact booksSize))
          refine Steps.pure (v := ?_) Keeps.refl rfl (fun f w' hR hV => ⟨?_, ?_⟩) ?_
          rotate_left
          · (rfl)
          · (clear hV; obtain ⟨x0, x1, x2⟩ := HSQ3.out _ hR; go_simp; all_goals (try with_reducible rfl))
          refine Steps.pure (v := ?_) Keeps.refl rfl (fun f w' hR hV => ⟨?_, ?_⟩) ?_
          rotate_left
          · (rfl)
          · (obtain ⟨h16, _⟩ := hV; replace h16 : f 16 = _ := h16; obtain ⟨x0, x1, x2⟩ := HSQ3.out _ hR; go_simp; all_goals (try with_reducible rfl))
          refine Steps.pure (v := ?_) Keeps.refl rfl (fun f w' hR hV => ⟨?_, ?_⟩) ?_
          rotate_left
          · (rfl)
          · (clear hV; obtain ⟨x0, x1, x2⟩ := HSQ3.out _ hR; go_simp; all_goals (try with_reducible rfl))
          refine Steps.pure (v := ?_) Keeps.refl rfl (fun f w' hR hV => ⟨?_, ?_⟩) ?_
          rotate_left
          · (rfl)
          · (obtain ⟨h18, _⟩ := hV; replace h18 : f 18 = _ := h18; obtain ⟨x0, x1, x2⟩ := HSQ3.out _ hR; go_simp; all_goals (try with_reducible rfl))
          refine Steps.pure (v := ?_) Keeps.refl rfl (fun f w' hR hV => ⟨?_, ?_⟩) ?_
          rotate_left
          · (rfl)
          · (clear hV; obtain ⟨x0, x1, x2⟩ := HSQ3.out _ hR; go_simp; all_goals (try with_reducible rfl))
          refine Steps.call (BalV g3) rfl (fun _ _ _ k h => BalV.keeps k h) (fun f w' hR hV => ⟨?_, ?_⟩) ?_
          · (rfl)
          · (obtain ⟨h15, h17, h19, h20, _⟩ := hV; replace h15 : f 15 = _ := h15; replace h17 : f 17 = _ := h17; replace h19 : f 19 = _ := h19; replace h20 : f 20 = _ := h20; obtain ⟨x0, x1, x2⟩ := HSQ3.out _ hR; go_simp; go_at_call 13; refine (HN3.out _ hR).mono ?_; rintro e w3 ⟨ao3, cap3, b3, rfl, hs3, hk3⟩; exact StepPost.of _ rfl (BalV.of hs3) hk3)
          refine Steps.call (BalV g1) rfl (fun _ _ _ k h => BalV.keeps k h) (fun f w' hR hV => ⟨?_, ?_⟩) ?_
          · (rfl)
          · (obtain ⟨h7, _⟩ := hV; replace h7 : BalV g1 w' (f 7) := h7; obtain ⟨x0, x1, x2⟩ := HSQ3.out _ hR; go_simp; exact StepPost.of _ rfl h7 (Keeps.refl _))
          refine Steps.call (BalV g2) rfl (fun _ _ _ k h => BalV.keeps k h) (fun f w' hR hV => ⟨?_, ?_⟩) ?_
          · (rfl)
          · (obtain ⟨h14, _⟩ := hV; replace h14 : BalV g2 w' (f 14) := h14; obtain ⟨x0, x1, x2⟩ := HSQ3.out _ hR; go_simp; exact StepPost.of _ rfl h14 (Keeps.refl _))
          refine Steps.call (BalV g3) rfl (fun _ _ _ k h => BalV.keeps k h) (fun f w' hR hV => ⟨?_, ?_⟩) ?_
          · (rfl)
          · (obtain ⟨h21, _⟩ := hV; replace h21 : BalV g3 w' (f 21) := h21; obtain ⟨x0, x1, x2⟩ := HSQ3.out _ hR; go_simp; exact StepPost.of _ rfl h21 (Keeps.refl _))
          all_goals (refine Steps.done [22, 23, 24] (by kernel_rfl) rfl (fun f wy hR hV => ?_); obtain ⟨h22, h23, h24, _⟩ := hV; replace h22 : BalV g1 wy (f 22) := h22; replace h23 : BalV g2 wy (f 23) := h23; replace h24 : BalV g3 wy (f 24) := h24)
          obtain ⟨ao1, cap1, b1, e1, hs1⟩ := h22
          obtain ⟨ao2, cap2, b2, e2, hs2⟩ := h23
          obtain ⟨ao3, cap3, b3, e3, hs3⟩ := h24
          simp only [e1, e2, e3]
          have HG1 := Lib.hid hs1
          have HG2 := Lib.hid hs2
          have HG3 := Lib.hid hs3
          have l1 := Sl.le hs1
          have l2 := Sl.le hs2
          have l3 := Sl.le hs3
          have k1 := Sl.cap hs1
          have k2 := Sl.cap hs2
          have k3 := Sl.cap hs3
          have HKY := Lib.hid (HKQ.out.trans (HKV.out.trans ((Keeps.refl wr).drew.trans hR)))
          clear hs1 hs2 hs3 e1 e2 e3 hR HRB HRG3 HSQ3 HN1 HN2 HN3
          obtain ⟨G, hG⟩ : ∃ G, g1 ++ g2 ++ g3 = G := ⟨_, rfl⟩
          have HG : Hid (0 + g1.length + g2.length + g3.length = G.length ∧ [] ++ g1.flatMap Bal.cells ++ g2.flatMap Bal.cells ++ g3.flatMap Bal.cells = G.flatMap Bal.cells) := Lib.hid (by rw [← hG]; exact ⟨by simp; omega, by simp [List.flatMap_append]⟩)
          clear hG
          go_wp2_with (at_builtin; first | (guard_hyp hown2 : _; (refine wpList_app_all elemBalN rfl (.tmp 105) (.tmp 106) rfl wy _ _ _ rfl wy.heap.size hown2 hb2 hsz2 ao3 g3.length cap3 b3 0 (g3.flatMap Bal.cells) rfl (HG3.out.keeps hb2) (ones_bal g3) (by omega) (by omega) ?_); intro v3 w3 hown3 hb3 hsz3; rw [HG.out.1] at hown3; rw [HG.out.2] at hown3; obtain ⟨aoZ, capZ, bZ, eZ, hsZ⟩ := Sl.own hown3; subst eZ; have HSZ := Lib.hid hsZ; have HKZ := Lib.hid (show Keeps wy w3 from hb3); have hleZ := Sl.le hsZ; have hcapZ := Sl.cap hsZ; clear hown1 hown2 hown3 hb1 hb2 hb3 hsz1 hsz2 hsz3 hsZ) | (guard_hyp hown1 : _; (refine wpList_app_all elemBalN rfl (.tmp 103) (.tmp 104) rfl wy _ _ _ rfl wy.heap.size hown1 hb1 hsz1 ao2 g2.length cap2 b2 0 (g2.flatMap Bal.cells) rfl (HG2.out.keeps hb1) (ones_bal g2) (by omega) (by omega) ?_); intro v2 w2 hown2 hb2 hsz2) | ((refine wpList_app_all elemBalN rfl (.tmp 101) (.tmp 102) rfl wy _ 0 [] rfl wy.heap.size (own_empty (Nat.le_refl _)) (by exact ((Below.refl _ wy).alloc (Nat.le_refl _) _)) (by simp) ao1 g1.length cap1 b1 0 (g1.flatMap Bal.cells) rfl (HG1.out.keeps ((Keeps.refl wy).alloc _)) (ones_bal g1) (by omega) (by omega) ?_); intro v1 w1 hown1 hb1 hsz1))
          go_loopw [109] (fun vi w4 => ∃ k : Nat, k ≤ G.length ∧ vi = .int .i64 k ∧ Hid (Keeps w3 w4)) (fun vi _ => G.length - (intOf vi).toNat)
          case atStart => exact ⟨0, Nat.zero_le _, rfl, Lib.hid (Keeps.refl w3)⟩
          case round =>
            obtain ⟨k, hk, rfl, HW⟩ := hrel
            by_cases hlt : k < G.length
            · have hr : Recs wr 2 Bal.cells aoZ G capZ bZ 0 := HSZ.out.keeps HW.out
              have hix := Sl.at hr Try.underlying42 Try.sizeOf52 k hlt
              obtain ⟨q, hq⟩ : ∃ q, G[k] = q := ⟨_, rfl⟩
              have c0 := hr.cell Bal.len k hlt 0 (.int .i64 q.acc) (by rw [hq]; rfl)
              have c1 := hr.cell Bal.len k hlt 1 (.int .i64 q.amount) (by rw [hq]; rfl)
              simp only [Nat.add_zero, Nat.zero_add] at c0 c1 hix
              obtain ⟨va, hva⟩ : ∃ v, ofW g1 q.acc = v := ⟨_, rfl⟩
              obtain ⟨vb, hvb⟩ : ∃ v, ofW g2 q.acc = v := ⟨_, rfl⟩
              obtain ⟨vd, hvd⟩ : ∃ v, ofW g3 q.acc = v := ⟨_, rfl⟩
              have eN : (wrap64 (va + vb) != vd) = false := by have := HDS.out q.acc; rw [hva, hvb, hvd] at this; simp [this]
              have eN2 : (IntKind.i64.wrap (va + vb) != vd) = false := by rw [IntKind.wrap_i64]; unfold wrap64 at eN; exact eN
              have hO : ∀ (g : List Bal) (ao : Option Addr) (cap b : Nat) (v : Int), ofW g q.acc = v → Recs wy 2 Bal.cells ao g cap b 0 → ∀ W, Keeps (wr.alloc (.cells #[.int .i64 q.acc, .int .i64 q.amount] 52)).drew W → Calls Try.prog 17 #[.slice ao g.length cap, .int .i64 q.acc] W fun e w' => e = .returned (.int .i64 v) ∧ w' = W := fun g ao cap b v hv hrec W hW => by
                have := of_any g q.acc ao cap b 0 W (hrec.keeps ((HKZ.out.trans HW.out).trans (((Keeps.refl wr).alloc _).drew.trans hW)))
                rw [hv] at this
                exact this
              have HO1 := Lib.hid (hO g1 ao1 cap1 b1 va hva HG1.out)
              have HO2 := Lib.hid (hO g2 ao2 cap2 b2 vb hvb HG2.out)
              have HO3 := Lib.hid (hO g3 ao3 cap3 b3 vd hvd HG3.out)
              have HQX : Hid (∀ W, Keeps (wr.alloc (.cells #[.int .i64 q.acc, .int .i64 q.amount] 52)).drew W → W.cell? ⟨wr.heap.size, 0, none⟩ = some (.int .i64 q.acc)) := Lib.hid (fun W hW => hW.cell (show (wr.alloc (.cells #[.int .i64 q.acc, .int .i64 q.amount] 52)).drew.cell? ⟨wr.heap.size, 0, none⟩ = _ by go_simp))
              clear hO hva hvb hvd hq hr
              go_wp2_with fail
              refine wp_region_steps (A := ?_) Keeps [some 113, some 114, some 115, some 116, some 117, some 118, some 119, some 120, some 121, some 122, some 123, some 124, some 125, some 126] [[], [], [1], [0, 2], [], [], [5], [4, 6], [3, 7], [], [], [10], [9, 11], [8, 12]] 14 (by kernel_rfl) (by kernel_rfl) (by kernel_rfl) (by kernel_rfl) (by kernel_rfl) (by kernel_rfl) Keeps.refl (fun _ _ _ => Keeps.trans) ?_ ?_
              rotate_left
              · intro f; simp only [putL, Act.put, List.setIfInBounds_toArray, List.set_cons_zero, List.set_cons_succ, Nat.zero_add, Nat.reduceAdd]; exact rfl
              refine Steps.pure (v := ?_) Keeps.refl rfl (fun f w' hR hV => ⟨?_, ?_⟩) ?_
              rotate_left
              · (rfl)
              · (clear hV; have x0 := HQX.out _ hR; go_simp; all_goals (try with_reducible rfl))
              refine Steps.pure (v := ?_) Keeps.refl rfl (fun f w' hR hV => ⟨?_, ?_⟩) ?_
              rotate_left
              · (rfl)
              · (clear hV; have x0 := HQX.out _ hR; go_simp; all_goals (try with_reducible rfl))
              refine Steps.pure (v := ?_) Keeps.refl rfl (fun f w' hR hV => ⟨?_, ?_⟩) ?_
              rotate_left
              · (rfl)
              · (obtain ⟨h1, _⟩ := hV; replace h1 : f 1 = _ := h1; have x0 := HQX.out _ hR; go_simp; all_goals (try with_reducible rfl))
              refine Steps.call (fun _ v => v = .int .i64 va) rfl (fun _ _ _ _ h => h) (fun f w' hR hV => ⟨?_, ?_⟩) ?_
              · (rfl)
              · (obtain ⟨h0, h2, _⟩ := hV; replace h0 : f 0 = _ := h0; replace h2 : f 2 = _ := h2; have x0 := HQX.out _ hR; go_simp; go_at_call 17; refine (HO1.out _ hR).mono ?_; rintro e w5 ⟨rfl, hw5⟩; subst hw5; exact StepPost.of _ rfl rfl (Keeps.refl _))
              refine Steps.pure (v := ?_) Keeps.refl rfl (fun f w' hR hV => ⟨?_, ?_⟩) ?_
              rotate_left
              · (rfl)
              · (clear hV; have x0 := HQX.out _ hR; go_simp; all_goals (try with_reducible rfl))
              refine Steps.pure (v := ?_) Keeps.refl rfl (fun f w' hR hV => ⟨?_, ?_⟩) ?_
              rotate_left
              · (rfl)
              · (clear hV; have x0 := HQX.out _ hR; go_simp; all_goals (try with_reducible rfl))
              refine Steps.pure (v := ?_) Keeps.refl rfl (fun f w' hR hV => ⟨?_, ?_⟩) ?_
              rotate_left
              · (rfl)
              · (obtain ⟨h5, _⟩ := hV; replace h5 : f 5 = _ := h5; have x0 := HQX.out _ hR; go_simp; all_goals (try with_reducible rfl))
              refine Steps.call (fun _ v => v = .int .i64 vb) rfl (fun _ _ _ _ h => h) (fun f w' hR hV => ⟨?_, ?_⟩) ?_
              · (rfl)
              · (obtain ⟨h4, h6, _⟩ := hV; replace h4 : f 4 = _ := h4; replace h6 : f 6 = _ := h6; have x0 := HQX.out _ hR; go_simp; go_at_call 17; refine (HO2.out _ hR).mono ?_; rintro e w5 ⟨rfl, hw5⟩; subst hw5; exact StepPost.of _ rfl rfl (Keeps.refl _))
              refine Steps.pure (v := ?_) Keeps.refl rfl (fun f w' hR hV => ⟨?_, ?_⟩) ?_
              rotate_left
              · (rfl)
              · (obtain ⟨h3, h7, _⟩ := hV; replace h3 : f 3 = _ := h3; replace h7 : f 7 = _ := h7; have x0 := HQX.out _ hR; go_simp; all_goals (try with_reducible rfl))
              refine Steps.pure (v := ?_) Keeps.refl rfl (fun f w' hR hV => ⟨?_, ?_⟩) ?_
              rotate_left
              · (rfl)
              · (clear hV; have x0 := HQX.out _ hR; go_simp; all_goals (try with_reducible rfl))
              refine Steps.pure (v := ?_) Keeps.refl rfl (fun f w' hR hV => ⟨?_, ?_⟩) ?_
              rotate_left
              · (rfl)
              · (clear hV; have x0 := HQX.out _ hR; go_simp; all_goals (try with_reducible rfl))
              refine Steps.pure (v := ?_) Keeps.refl rfl (fun f w' hR hV => ⟨?_, ?_⟩) ?_
              rotate_left
              · (rfl)
              · (obtain ⟨h10, _⟩ := hV; replace h10 : f 10 = _ := h10; have x0 := HQX.out _ hR; go_simp; all_goals (try with_reducible rfl))
              refine Steps.call (fun _ v => v = .int .i64 vd) rfl (fun _ _ _ _ h => h) (fun f w' hR hV => ⟨?_, ?_⟩) ?_
              · (rfl)
              · (obtain ⟨h9, h11, _⟩ := hV; replace h9 : f 9 = _ := h9; replace h11 : f 11 = _ := h11; have x0 := HQX.out _ hR; go_simp; go_at_call 17; refine (HO3.out _ hR).mono ?_; rintro e w5 ⟨rfl, hw5⟩; subst hw5; exact StepPost.of _ rfl rfl (Keeps.refl _))
              refine Steps.pure (v := ?_) Keeps.refl rfl (fun f w' hR hV => ⟨?_, ?_⟩) ?_
              rotate_left
              · (rfl)
              · (obtain ⟨h8, h12, _⟩ := hV; replace h8 : f 8 = _ := h8; replace h12 : f 12 = _ := h12; have x0 := HQX.out _ hR; go_simp; all_goals (try with_reducible rfl))
              all_goals (refine Steps.done [13] (by kernel_rfl) rfl (fun f wu hR hV => ?_); obtain ⟨h13, _⟩ := hV; replace h13 : f 13 = _ := h13; simp only [h13])
              go_wp2_with fail
              go_roundw
              case rel => exact ⟨k + 1, by omega, by go_num, Lib.hid (HW.out.trans (((Keeps.refl wr).alloc _).drew.trans hR))⟩
              case measure => simp [intOf]; omega
            · obtain rfl : k = G.length := by omega
              go_wp2_with fail
              go_ret
              exact ⟨rfl, HKY.out.trans (HKZ.out.trans HW.out)⟩
end Go.Proofs.Ytfddhmhagijodaa
