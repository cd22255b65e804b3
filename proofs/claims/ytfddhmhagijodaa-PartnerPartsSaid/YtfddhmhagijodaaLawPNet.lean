/- The law on Net: the walk. -/
import Derived.Test.YtfddhmhagijodaaRNetW
import Derived.Test.YtfddhmhagijodaaPFindL
namespace Go.Proofs.Ytfddhmhagijodaa
open Go.RowKit
set_option linter.unusedSimpArgs false
set_option linter.unusedVariables false

theorem rnet_is (bv : List Value) (es : List JV) (ms : List MV) (en pt date : Int) (w : World) (H : Bks w bv es ms) (hm : ∀ e ∈ es, e.x.lines.length ≤ 8) : NetZ (btw date en pt (es.map JV.x)) (nzN (netR (rbtw date en pt es))) := by
  rw [← rbtw_plc]
  refine (netR_is _ fun p hp => ?_).nz
  have h2 : p.plc ∈ btw date en pt (es.map JV.x) := by rw [← rbtw_plc]; exact List.mem_map_of_mem hp
  exact (btw_ok (fun x hx => by obtain ⟨e, he, rfl⟩ := List.mem_map.1 hx; exact ⟨H.ok e he, hm e he⟩) _ h2).2.2.1
/-- The value reads as a list of balances. -/
def BalV (l : List Bal) (W : World) (v : Value) : Prop := ∃ ao cap b, v = .slice ao l.length cap ∧ Recs W 2 Bal.cells ao l cap b 0
theorem BalV.of {l : List Bal} {W : World} {ao : Option Addr} {cap b : Nat} (h : Recs W 2 Bal.cells ao l cap b 0) : BalV l W (.slice ao l.length cap) := ⟨ao, cap, b, rfl, h⟩
theorem BalV.keeps {l : List Bal} {w1 w2 : World} {v : Value} (k : Keeps w1 w2) (h : BalV l w1 v) : BalV l w2 v := by obtain ⟨ao, cap, b, e, hs⟩ := h; exact ⟨ao, cap, b, e, hs.keeps k⟩
theorem NetZ.unique {L : List Plc} {l m : List Bal} (h : NetZ L l) (k : NetZ L m) : l = m := netz_ext h k (fun _ => rfl)
set_option maxRecDepth 100000 in
set_option maxHeartbeats 2000000 in
theorem lawNet_any (bv : List Value) (es : List JV) (ms : List MV) (qe qp qd : Int) (w : World) (H : Bks w bv es ms) :
    Calls Try.prog 3 #[.agg bv.toArray, .agg #[.int .i64 qe, .int .i64 qp, .int .i64 qd]] w fun e w' => e = .returned (.bool true) ∧ Keeps w w' := by
  have HB := Lib.hid H
  have hbl := H.len
  have hrg := box_range w bv 36
  have hk0 : Keeps w (w.alloc (.cells bv.toArray 36)) := (Keeps.refl w).alloc _
  have hz0 : (w.alloc (.cells bv.toArray 36)).heap.size = w.heap.size + 1 := by simp
  obtain ⟨W1, hW1⟩ : ∃ W1, w.alloc (.cells bv.toArray 36) = W1 := ⟨_, rfl⟩
  rw [hW1] at hrg hk0 hz0
  have r0 : (W1.alloc (.cells #[.int .i64 qe, .int .i64 qp, .int .i64 qd] 38)).cell? ⟨w.heap.size + 1, 0, none⟩ = some (.int .i64 qe) := by rw [← hz0]; go_simp
  have r1 : (W1.alloc (.cells #[.int .i64 qe, .int .i64 qp, .int .i64 qd] 38)).cell? ⟨w.heap.size + 1, 1, none⟩ = some (.int .i64 qp) := by rw [← hz0]; go_simp
  have r2 : (W1.alloc (.cells #[.int .i64 qe, .int .i64 qp, .int .i64 qd] 38)).cell? ⟨w.heap.size + 1, 2, none⟩ = some (.int .i64 qd) := by rw [← hz0]; go_simp
  have hrg2 := range_keeps hrg ((Keeps.refl W1).alloc (.cells #[.int .i64 qe, .int .i64 qp, .int .i64 qd] 38))
  have HK0 := Lib.hid hk0
  clear hrg hk0
  cases hf : fewB es ms with
  | false =>
    have HF : Hid (∀ W, Keeps w W → Calls Try.prog 11 #[.agg bv.toArray] W fun e w' => e = .returned (.bool false) ∧ Keeps W w') := Lib.hid (fun W hW => by have := few_any bv es ms W (HB.out.keeps hW); rw [hf] at this; exact this)
    clear hf H
    go_enter Try.func3, Try.ntmps3
    go_wp2_with (first | (go_at_call 10; first | (guard_hyp hk1 : _; refine (pawake_any _).mono ?_; rintro e w3 ⟨rfl, hk3⟩) | (refine (pawake_any _).mono ?_; rintro e w1 ⟨rfl, hk1⟩; have hrg1 := range_keeps hrg2 hk1)) | (refine wpList_booksG (.tmp 2) rfl rfl w.heap.size bv hbl rfl hrg1 ?_; clear hrg1) | (go_at_call 11; refine (HF.out _ ((HK0.out.alloc _).trans hk1)).mono ?_; rintro e w2 ⟨rfl, hk2⟩))
    go_ret
    exact ⟨rfl, ((HK0.out.alloc _).trans hk1).trans (hk2.trans hk3)⟩
  | true =>
    obtain ⟨hl8, hn40, _, _⟩ := fewB_spec hf
    have HF : Hid (∀ W, Keeps w W → Calls Try.prog 11 #[.agg bv.toArray] W fun e w' => e = .returned (.bool true) ∧ Keeps W w') := Lib.hid (fun W hW => by have := few_any bv es ms W (HB.out.keeps hW); rw [hf] at this; exact this)
    obtain ⟨l, hl⟩ : ∃ l, nzN (netR (rbtw qd qe qp es)) = l := ⟨_, rfl⟩
    have hnz := rnet_is bv es ms qe qp qd w H hl8
    rw [hl] at hnz
    have HP : Hid (∀ W, Keeps w W → Calls Try.prog 13 #[.agg bv.toArray, .int .i64 qe, .int .i64 qp, .int .i64 qd] W fun e w' => ∃ ao cap b, e = .returned (.slice ao l.length cap) ∧ Recs w' 2 Bal.cells ao l cap b 0 ∧ Keeps W w') := Lib.hid (fun W hW => by
      obtain ⟨ao, cap, b, o, he, hj⟩ := HB.out.ents
      refine (net_any bv hbl HB.out.one es ao cap b o he qe qp qd W (hj.keeps hW) (by omega) hl8 HB.out.ok).mono ?_
      rintro e w' ⟨v, l2, rfl, hn2, ho, hk, _⟩
      obtain rfl := hnz.unique hn2
      obtain ⟨ao2, cap2, b2, rfl, hs⟩ := Sl.own ho
      exact ⟨ao2, cap2, b2, rfl, hs, hk⟩)
    have HR : Hid (∀ W, Keeps w W → Calls Try.prog 14 #[.agg bv.toArray, .int .i64 qe, .int .i64 qp, .int .i64 qd] W fun e w' => ∃ ao cap b, e = .returned (.slice ao l.length cap) ∧ Recs w' 2 Bal.cells ao l cap b 0 ∧ Keeps W w') := Lib.hid (fun W hW => by
      refine (rnet_any bv es ms qe qp qd W (HB.out.keeps hW) hn40 hl8).mono ?_
      rintro e w' ⟨v, rfl, ho, hk⟩
      rw [hl] at ho
      obtain ⟨ao2, cap2, b2, rfl, hs⟩ := Sl.own ho
      exact ⟨ao2, cap2, b2, rfl, hs, hk⟩)
    clear hf H hl8 hn40 hl hnz
    go_enter Try.func3, Try.ntmps3
    go_wp2_with (first | (go_at_call 10; refine (pawake_any _).mono ?_; rintro e w1 ⟨rfl, hk1⟩; have hrg1 := range_keeps hrg2 hk1; have s0 := hk1.cell r0; have s1 := hk1.cell r1; have s2 := hk1.cell r2; have K1 := Lib.hid ((HK0.out.alloc (.cells #[.int .i64 qe, .int .i64 qp, .int .i64 qd] 38)).trans hk1)) | (refine wpList_booksG (.tmp 2) rfl rfl w.heap.size bv hbl rfl hrg1 ?_) | (go_at_call 11; refine (HF.out _ K1.out).mono ?_; rintro e w2 ⟨rfl, hk2⟩; have hrgc := range_keeps hrg1 hk2; replace s0 := hk2.cell s0; replace s1 := hk2.cell s1; replace s2 := hk2.cell s2; have K2 := Lib.hid (K1.out.trans hk2)))
    have HRG : Hid (∀ W, Keeps w2.drew W → W.rangeAt w.heap.size 0 bv) := Lib.hid (fun W hW => range_keeps (show w2.drew.rangeAt w.heap.size 0 bv from hrgc) hW)
    have HSQ : Hid (∀ W, Keeps w2.drew W → W.cell? ⟨w.heap.size + 1, 0, none⟩ = some (.int .i64 qe) ∧ W.cell? ⟨w.heap.size + 1, 1, none⟩ = some (.int .i64 qp) ∧ W.cell? ⟨w.heap.size + 1, 2, none⟩ = some (.int .i64 qd)) := Lib.hid (fun W hW => ⟨hW.cell s0, hW.cell s1, hW.cell s2⟩)
    clear hrg1 hrg2 hrgc s0 s1 s2 r0 r1 r2
    refine wp_region_steps (A := ?_) Keeps [some 13, some 14, some 15, some 16, some 17, some 18, some 19, some 20, some 21, some 22, some 23, some 24, some 25, some 26, some 27, some 28, some 29, some 4] [[], [], [1], [], [3], [], [5], [0, 2, 4, 6], [], [], [9], [], [11], [], [13], [8, 10, 12, 14], [7, 15], [16]] 18 (by kernel_rfl) (by kernel_rfl) (by kernel_rfl) (by kernel_rfl) (by kernel_rfl) (by kernel_rfl) Keeps.refl (fun _ _ _ => Keeps.trans) ?_ ?_
    rotate_left
    · intro f; simp only [putL, Act.put, List.setIfInBounds_toArray, List.set_cons_zero, List.set_cons_succ, Nat.zero_add, Nat.reduceAdd]; exact rfl
    refine Steps.pure (v := .agg bv.toArray) Keeps.refl rfl (fun f w' hR hV => ⟨?_, ?_⟩) ?_
    · (rfl)
    · (clear hV; obtain ⟨x0, x1, x2⟩ := HSQ.out _ hR; exact exec_load_mid 36 (.tmp 2) rfl _ w.heap.size 0 bv rfl (HRG.out _ hR) Try.underlying36 rfl (by rw [hbl]; exact booksSize))
    refine Steps.pure (v := ?_) Keeps.refl rfl (fun f w' hR hV => ⟨?_, ?_⟩) ?_
    rotate_left
    · (rfl)
    · (clear hV; obtain ⟨x0, x1, x2⟩ := HSQ.out _ hR; go_simp; all_goals (try with_reducible rfl))
    refine Steps.pure (v := ?_) Keeps.refl rfl (fun f w' hR hV => ⟨?_, ?_⟩) ?_
    rotate_left
    · (rfl)
    · (obtain ⟨h1, _⟩ := hV; replace h1 : f 1 = _ := h1; obtain ⟨x0, x1, x2⟩ := HSQ.out _ hR; go_simp; all_goals (try with_reducible rfl))
    refine Steps.pure (v := ?_) Keeps.refl rfl (fun f w' hR hV => ⟨?_, ?_⟩) ?_
    rotate_left
    · (rfl)
    · (clear hV; obtain ⟨x0, x1, x2⟩ := HSQ.out _ hR; go_simp; all_goals (try with_reducible rfl))
    refine Steps.pure (v := ?_) Keeps.refl rfl (fun f w' hR hV => ⟨?_, ?_⟩) ?_
    rotate_left
    · (rfl)
    · (obtain ⟨h3, _⟩ := hV; replace h3 : f 3 = _ := h3; obtain ⟨x0, x1, x2⟩ := HSQ.out _ hR; go_simp; all_goals (try with_reducible rfl))
    refine Steps.pure (v := ?_) Keeps.refl rfl (fun f w' hR hV => ⟨?_, ?_⟩) ?_
    rotate_left
    · (rfl)
    · (clear hV; obtain ⟨x0, x1, x2⟩ := HSQ.out _ hR; go_simp; all_goals (try with_reducible rfl))
    refine Steps.pure (v := ?_) Keeps.refl rfl (fun f w' hR hV => ⟨?_, ?_⟩) ?_
    rotate_left
    · (rfl)
    · (obtain ⟨h5, _⟩ := hV; replace h5 : f 5 = _ := h5; obtain ⟨x0, x1, x2⟩ := HSQ.out _ hR; go_simp; all_goals (try with_reducible rfl))
    refine Steps.call (BalV l) rfl (fun _ _ _ k h => BalV.keeps k h) (fun f w' hR hV => ⟨?_, ?_⟩) ?_
    · (rfl)
    · (obtain ⟨h0, h2, h4, h6, _⟩ := hV; replace h0 : f 0 = _ := h0; replace h2 : f 2 = _ := h2; replace h4 : f 4 = _ := h4; replace h6 : f 6 = _ := h6; obtain ⟨x0, x1, x2⟩ := HSQ.out _ hR; go_simp; go_at_call 13; refine (HP.out _ (K2.out.drew.trans hR)).mono ?_; rintro e w3 ⟨ao3, cap3, b3, rfl, hs3, hk3⟩; exact StepPost.of _ rfl (BalV.of hs3) hk3)
    refine Steps.pure (v := .agg bv.toArray) Keeps.refl rfl (fun f w' hR hV => ⟨?_, ?_⟩) ?_
    · (rfl)
    · (clear hV; obtain ⟨x0, x1, x2⟩ := HSQ.out _ hR; exact exec_load_mid 36 (.tmp 2) rfl _ w.heap.size 0 bv rfl (HRG.out _ hR) Try.underlying36 rfl (by rw [hbl]; exact booksSize))
    refine Steps.pure (v := ?_) Keeps.refl rfl (fun f w' hR hV => ⟨?_, ?_⟩) ?_
    rotate_left
    · (rfl)
    · (clear hV; obtain ⟨x0, x1, x2⟩ := HSQ.out _ hR; go_simp; all_goals (try with_reducible rfl))
    refine Steps.pure (v := ?_) Keeps.refl rfl (fun f w' hR hV => ⟨?_, ?_⟩) ?_
    rotate_left
    · (rfl)
    · (obtain ⟨h9, _⟩ := hV; replace h9 : f 9 = _ := h9; obtain ⟨x0, x1, x2⟩ := HSQ.out _ hR; go_simp; all_goals (try with_reducible rfl))
    refine Steps.pure (v := ?_) Keeps.refl rfl (fun f w' hR hV => ⟨?_, ?_⟩) ?_
    rotate_left
    · (rfl)
    · (clear hV; obtain ⟨x0, x1, x2⟩ := HSQ.out _ hR; go_simp; all_goals (try with_reducible rfl))
    refine Steps.pure (v := ?_) Keeps.refl rfl (fun f w' hR hV => ⟨?_, ?_⟩) ?_
    rotate_left
    · (rfl)
    · (obtain ⟨h11, _⟩ := hV; replace h11 : f 11 = _ := h11; obtain ⟨x0, x1, x2⟩ := HSQ.out _ hR; go_simp; all_goals (try with_reducible rfl))
    refine Steps.pure (v := ?_) Keeps.refl rfl (fun f w' hR hV => ⟨?_, ?_⟩) ?_
    rotate_left
    · (rfl)
    · (clear hV; obtain ⟨x0, x1, x2⟩ := HSQ.out _ hR; go_simp; all_goals (try with_reducible rfl))
    refine Steps.pure (v := ?_) Keeps.refl rfl (fun f w' hR hV => ⟨?_, ?_⟩) ?_
    rotate_left
    · (rfl)
    · (obtain ⟨h13, _⟩ := hV; replace h13 : f 13 = _ := h13; obtain ⟨x0, x1, x2⟩ := HSQ.out _ hR; go_simp; all_goals (try with_reducible rfl))
    refine Steps.call (BalV l) rfl (fun _ _ _ k h => BalV.keeps k h) (fun f w' hR hV => ⟨?_, ?_⟩) ?_
    · (rfl)
    · (obtain ⟨h8, h10, h12, h14, _⟩ := hV; replace h8 : f 8 = _ := h8; replace h10 : f 10 = _ := h10; replace h12 : f 12 = _ := h12; replace h14 : f 14 = _ := h14; obtain ⟨x0, x1, x2⟩ := HSQ.out _ hR; go_simp; go_at_call 14; refine (HR.out _ (K2.out.drew.trans hR)).mono ?_; rintro e w3 ⟨ao3, cap3, b3, rfl, hs3, hk3⟩; exact StepPost.of _ rfl (BalV.of hs3) hk3)
    refine Steps.call (fun _ v => v = .bool true) rfl (fun _ _ _ _ h => h) (fun f w' hR hV => ⟨?_, ?_⟩) ?_
    · (rfl)
    · (obtain ⟨h7, h15, _⟩ := hV; replace h7 : BalV l w' (f 7) := h7; replace h15 : BalV l w' (f 15) := h15; obtain ⟨x0, x1, x2⟩ := HSQ.out _ hR; go_simp; obtain ⟨ao3, cap3, b3, e3, hs3⟩ := h7; obtain ⟨ao4, cap4, b4, e4, hs4⟩ := h15; simp only [e3, e4]; go_at_call 12; refine (samen_any l _ _ _ _ _ _ _ _ _ hs3 hs4).mono ?_; rintro e w5 ⟨rfl, q5, rfl⟩; exact StepPost.of _ rfl rfl ((Keeps.refl _).drewN _))
    refine Steps.pure (v := ?_) Keeps.refl rfl (fun f w' hR hV => ⟨?_, ?_⟩) ?_
    rotate_left
    · (rfl)
    · (obtain ⟨h16, _⟩ := hV; replace h16 : f 16 = _ := h16; obtain ⟨x0, x1, x2⟩ := HSQ.out _ hR; go_simp; all_goals (try with_reducible rfl))
    all_goals (refine Steps.done [17] (by kernel_rfl) rfl (fun f wq hR hV => ?_); obtain ⟨h17, _⟩ := hV; replace h17 : f 17 = _ := h17; simp only [h17])
    go_wp2_with fail
    go_ret
    exact ⟨rfl, K2.out.trans ((Keeps.refl w2).drew.trans hR)⟩
end Go.Proofs.Ytfddhmhagijodaa
