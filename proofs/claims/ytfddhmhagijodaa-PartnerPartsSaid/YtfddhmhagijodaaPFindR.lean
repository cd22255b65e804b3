/- The reference's Find: the walk. -/
import Derived.Test.YtfddhmhagijodaaPFindW
namespace Go.Proofs.Ytfddhmhagijodaa
open Go.RowKit
set_option linter.unusedSimpArgs false
set_option linter.unusedVariables false

set_option maxRecDepth 100000 in
set_option maxHeartbeats 2000000 in
theorem rpfind_any (bv : List Value) (es : List JV) (ms : List MV) (re rl : Int) (k0 : Nat) (hF : FstE es re k0) (w : World) (H : Bks w bv es ms) (hm : ∀ e ∈ es, e.x.lines.length ≤ 8) :
    Calls Try.prog 22 #[.agg bv.toArray, .agg #[.int .i64 re, .int .i64 rl]] w (FindOut w (findS es k0 rl).1 (findS es k0 rl).2.1 (findS es k0 rl).2.2) := by
  obtain ⟨ao1, cap1, b1, o1, he1, hj⟩ := H.ents
  have HJ := Lib.hid hj
  have HM := Lib.hid hm
  have h1 := Sl.le hj.row
  have h2 := Sl.cap hj.row
  have hrg := box_range w bv 36
  have c21 := hrg 21 _ he1
  simp only [Nat.zero_add] at c21
  have hk0 : Keeps w (w.alloc (.cells bv.toArray 36)) := (Keeps.refl w).alloc _
  have hz0 : (w.alloc (.cells bv.toArray 36)).heap.size = w.heap.size + 1 := by simp
  obtain ⟨W1, hW1⟩ : ∃ W1, w.alloc (.cells bv.toArray 36) = W1 := ⟨_, rfl⟩
  rw [hW1] at c21 hk0 hz0
  have HB4 := Lib.hid (fbox_new W1 w.heap.size hz0 re rl)
  have HK4 : Hid (Keeps w (((W1.alloc (.cells #[.int .i64 re, .int .i64 rl] 59)).alloc (.cells #[.int .i64 0, .int .i64 0, .int .i64 0, .int .i64 0, .int .i64 0, .string ⟨#[]⟩, .slice none 0 0] 50)).alloc (.cells #[.int .i64 0, .int .i64 0, .int .i64 0] 56))) := Lib.hid (((hk0.alloc _).alloc _).alloc _)
  have C4 : Hid ((((W1.alloc (.cells #[.int .i64 re, .int .i64 rl] 59)).alloc (.cells #[.int .i64 0, .int .i64 0, .int .i64 0, .int .i64 0, .int .i64 0, .string ⟨#[]⟩, .slice none 0 0] 50)).alloc (.cells #[.int .i64 0, .int .i64 0, .int .i64 0] 56)).cell? ⟨w.heap.size, 21, none⟩ = some (.slice ao1 es.length cap1)) := Lib.hid (((((Keeps.refl W1).alloc _).alloc _).alloc _).cell c21)
  have hle := hF.2.1
  have HFE := Lib.hid hF
  clear hj hm hrg H hk0 hF
  go_enter Try.func22, Try.ntmps22
  go_wp2_with fail
  go_loopw [7] (fun vi wr => ∃ k : Nat, k ≤ es.length ∧ vi = .int .i64 k ∧ Hid (∀ e ∈ es.take k, e.x.id ≠ re) ∧ Hid (Keeps w wr ∧ FBox wr w.heap.size re rl ∧ wr.cell? ⟨w.heap.size, 21, none⟩ = some (.slice ao1 es.length cap1))) (fun vi _ => es.length - (intOf vi).toNat)
  case atStart => exact ⟨0, Nat.zero_le _, rfl, Lib.hid (by simp), Lib.hid ⟨HK4.out, HB4.out, C4.out⟩⟩
  case round =>
    obtain ⟨k, hk, rfl, HN, HW⟩ := hrel
    obtain ⟨wa, rfl⟩ : ∃ wa : World, wa = wr := ⟨_, rfl⟩
    have c21a := HW.out.2.2
    have r0a := HW.out.2.1.r0
    have r1a := HW.out.2.1.r1
    have hza := HW.out.2.1.size
    by_cases hlt : k < es.length
    · have hr := HJ.out.row.keeps HW.out.1
      have hix := Sl.at hr Try.underlying30 Try.sizeOf50 k hlt
      obtain ⟨y, hy⟩ : ∃ y, es[k] = y := ⟨_, rfl⟩
      have hyl : y.x.lines.length ≤ 8 := by rw [← hy]; exact HM.out _ (List.getElem_mem ..)
      have d0 := hr.cell JV.len k hlt 0 (.int .i64 y.x.id) (by rw [hy]; rfl)
      rw [Nat.add_zero] at d0
      have d1 := hr.cell JV.len k hlt 1 (.int .i64 y.x.ent) (by rw [hy]; rfl)
      have d2 := hr.cell JV.len k hlt 2 (.int .i64 y.x.date) (by rw [hy]; rfl)
      have d3 := hr.cell JV.len k hlt 3 (.int .i64 y.x.kind) (by rw [hy]; rfl)
      have d4 := hr.cell JV.len k hlt 4 (.int .i64 y.x.of_) (by rw [hy]; rfl)
      have d5 := hr.cell JV.len k hlt 5 (.string y.x.text) (by rw [hy]; rfl)
      have d6 := hr.cell JV.len k hlt 6 (.slice y.a y.x.lines.length y.c) (by rw [hy]; rfl)
      have HL : Hid (∀ W, Keeps w W → Recs W 3 Ln.cells y.a y.x.lines y.c y.b y.o) := Lib.hid (fun W hW => by rw [← hy]; exact (HJ.out.lines _ (List.getElem_mem ..)).keeps hW)
      by_cases hi : y.x.id = re
      · have ei : (y.x.id != re) = false := by simpa using hi
        have hkk : k = k0 := FstE.unique ⟨HN.out, hk, fun h => by rw [hy]; exact hi⟩ HFE.out
        subst hkk
        by_cases hn : rl < 0
        · have en : decide (rl < 0) = true := by simpa using hn
          have HQ : Hid (findS es k rl = (Jrn.zero, Ln.zero, false)) := Lib.hid (findS_bad hlt (by unfold lineAt; rw [if_pos hn]))
          clear hn hy hi hr
          go_wp2_with fail
          go_quiet (fail)
          obtain ⟨wq, hwq⟩ : ∃ wq, wa.drewN nq = wq := ⟨_, rfl⟩
          have hkq : Keeps wa wq := by rw [← hwq]; exact (Keeps.refl wa).drewN nq
          have HKW := Lib.hid (HW.out.1.trans hkq)
          have HBW := Lib.hid (HW.out.2.1.keeps hkq)
          rw [hwq]
          clear hwq
          replace c21a := hkq.cell c21a
          replace r1a := hkq.cell r1a
          replace d0 := hkq.cell d0
          replace d1 := hkq.cell d1
          replace d2 := hkq.cell d2
          replace d3 := hkq.cell d3
          replace d4 := hkq.cell d4
          replace d5 := hkq.cell d5
          replace d6 := hkq.cell d6
          have hzq := HBW.out.size
          have HBQ := Lib.hid (HBW.out.keeps ((Keeps.refl wq).alloc (.cells #[.int .i64 y.x.id, .int .i64 y.x.ent, .int .i64 y.x.date, .int .i64 y.x.kind, .int .i64 y.x.of_, .string y.x.text, .slice y.a y.x.lines.length y.c] 50)))
          have HKQ := Lib.hid (HKW.out.alloc (.cells #[.int .i64 y.x.id, .int .i64 y.x.ent, .int .i64 y.x.date, .int .i64 y.x.kind, .int .i64 y.x.of_, .string y.x.text, .slice y.a y.x.lines.length y.c] 50))
          have q7 := HBQ.out.r1
          go_wp2_with (first | (refine wpList_mid rfl 50 (.tmp 4) (.tmp 41) rfl (w.heap.size + 1 + 1) 7 [.int .i64 0, .int .i64 0, .int .i64 0, .int .i64 0, .int .i64 0, .string ⟨#[]⟩, .slice none 0 0] rfl rfl rfl HBQ.out.t4 enSize (JV.one ⟨Jrn.zero, none, 0, 0, 0⟩) ?_; intro w5 hw5) | (refine wpList_mid rfl 56 (.tmp 5) (.tmp 42) rfl (w.heap.size + 1 + 1 + 1) 3 [.int .i64 0, .int .i64 0, .int .i64 0] rfl rfl rfl (by rw [← hw5]; exact there_setCells HBQ.out.t5 _ _ _ (by omega)) lnSize (Ln.one Ln.zero) ?_; intro w6 hw6))
          rw [HQ.out]
          exact find_end rfl w _ w.heap.size Jrn.zero Ln.zero false none 0 0 0 (Sl.nil _ _) (by omega) (by omega) HBQ.out.t4 HBQ.out.t5 HKQ.out rfl _ rfl rfl rfl _ _ hw5 hw6
        · have en : decide (rl < 0) = false := by simpa using hn
          obtain ⟨n, hnn⟩ : ∃ n : Nat, rl = (n : Int) := ⟨rl.toNat, by omega⟩
          subst hnn
          by_cases hnl : n < y.x.lines.length
          · have e8 : decide ((y.x.lines.length : Int) ≤ (n : Int)) = false := by simp; omega
            have HQ : Hid (findS es k n = (y.x, y.x.lines[n], true)) := Lib.hid (by rw [findS_some (n := y.x.lines[n]) hlt (by rw [hy]; unfold lineAt; rw [if_neg hn]; simp [hnl]), hy])
            clear hn hy hi hr
            go_wp2_with fail
            go_quiet (fail)
            obtain ⟨wq, hwq⟩ : ∃ wq, wa.drewN nq = wq := ⟨_, rfl⟩
            have hkq : Keeps wa wq := by rw [← hwq]; exact (Keeps.refl wa).drewN nq
            have HKW := Lib.hid (HW.out.1.trans hkq)
            have HBW := Lib.hid (HW.out.2.1.keeps hkq)
            rw [hwq]
            clear hwq
            replace c21a := hkq.cell c21a
            replace r1a := hkq.cell r1a
            replace d0 := hkq.cell d0
            replace d1 := hkq.cell d1
            replace d2 := hkq.cell d2
            replace d3 := hkq.cell d3
            replace d4 := hkq.cell d4
            replace d5 := hkq.cell d5
            replace d6 := hkq.cell d6
            have hzq := HBW.out.size
            obtain ⟨C, hC⟩ : ∃ C : List Value, C = [.int .i64 y.x.id, .int .i64 y.x.ent, .int .i64 y.x.date, .int .i64 y.x.kind, .int .i64 y.x.of_, .string y.x.text, .slice y.a y.x.lines.length y.c] := ⟨_, rfl⟩
            obtain ⟨l, hl⟩ : ∃ l, y.x.lines[n] = l := ⟨_, rfl⟩
            have hyb : y.b < w.heap.size := World.block_lt_of_cell? w ⟨y.b, y.o + n * 3 + 0, none⟩ ((HL.out w (Keeps.refl w)).cell Ln.len n hnl 0 (.int .i64 l.acc) (by rw [hl]; rfl))
            have hk6 := HKW.out.alloc (.cells #[.int .i64 y.x.id, .int .i64 y.x.ent, .int .i64 y.x.date, .int .i64 y.x.kind, .int .i64 y.x.of_, .string y.x.text, .slice y.a y.x.lines.length y.c] 50)
            have hrow := HL.out _ hk6
            have hix5 := Sl.at hrow Try.underlying48 Try.sizeOf56 n hnl
            have k0' := hrow.cell Ln.len n hnl 0 (.int .i64 l.acc) (by rw [hl]; rfl)
            have k1 := hrow.cell Ln.len n hnl 1 (.int .i64 l.amt) (by rw [hl]; rfl)
            have k2 := hrow.cell Ln.len n hnl 2 (.int .i64 l.ptn) (by rw [hl]; rfl)
            simp only [Nat.add_zero] at k0'
            have HB5 := HBW.out.keeps ((Keeps.refl wq).alloc (.cells #[.int .i64 y.x.id, .int .i64 y.x.ent, .int .i64 y.x.date, .int .i64 y.x.kind, .int .i64 y.x.of_, .string y.x.text, .slice y.a y.x.lines.length y.c] 50))
            have q0 : (wq.alloc (.cells #[.int .i64 y.x.id, .int .i64 y.x.ent, .int .i64 y.x.date, .int .i64 y.x.kind, .int .i64 y.x.of_, .string y.x.text, .slice y.a y.x.lines.length y.c] 50)).cell? ⟨wq.heap.size, 0, none⟩ = some (.int .i64 y.x.id) := by go_simp
            have q1 : (wq.alloc (.cells #[.int .i64 y.x.id, .int .i64 y.x.ent, .int .i64 y.x.date, .int .i64 y.x.kind, .int .i64 y.x.of_, .string y.x.text, .slice y.a y.x.lines.length y.c] 50)).cell? ⟨wq.heap.size, 1, none⟩ = some (.int .i64 y.x.ent) := by go_simp
            have q2 : (wq.alloc (.cells #[.int .i64 y.x.id, .int .i64 y.x.ent, .int .i64 y.x.date, .int .i64 y.x.kind, .int .i64 y.x.of_, .string y.x.text, .slice y.a y.x.lines.length y.c] 50)).cell? ⟨wq.heap.size, 2, none⟩ = some (.int .i64 y.x.date) := by go_simp
            have q3 : (wq.alloc (.cells #[.int .i64 y.x.id, .int .i64 y.x.ent, .int .i64 y.x.date, .int .i64 y.x.kind, .int .i64 y.x.of_, .string y.x.text, .slice y.a y.x.lines.length y.c] 50)).cell? ⟨wq.heap.size, 3, none⟩ = some (.int .i64 y.x.kind) := by go_simp
            have q4 : (wq.alloc (.cells #[.int .i64 y.x.id, .int .i64 y.x.ent, .int .i64 y.x.date, .int .i64 y.x.kind, .int .i64 y.x.of_, .string y.x.text, .slice y.a y.x.lines.length y.c] 50)).cell? ⟨wq.heap.size, 4, none⟩ = some (.int .i64 y.x.of_) := by go_simp
            have q5 : (wq.alloc (.cells #[.int .i64 y.x.id, .int .i64 y.x.ent, .int .i64 y.x.date, .int .i64 y.x.kind, .int .i64 y.x.of_, .string y.x.text, .slice y.a y.x.lines.length y.c] 50)).cell? ⟨wq.heap.size, 5, none⟩ = some (.string y.x.text) := by go_simp
            have q6 : (wq.alloc (.cells #[.int .i64 y.x.id, .int .i64 y.x.ent, .int .i64 y.x.date, .int .i64 y.x.kind, .int .i64 y.x.of_, .string y.x.text, .slice y.a y.x.lines.length y.c] 50)).cell? ⟨wq.heap.size, 6, none⟩ = some (.slice y.a y.x.lines.length y.c) := by go_simp
            have q7 := HB5.r1
            have ht4 := HB5.t4
            have ht5 := HB5.t5
            go_upto_region 8 with (fail)
            obtain ⟨w6, hw6⟩ : ∃ w6, wq.alloc (.cells #[.int .i64 y.x.id, .int .i64 y.x.ent, .int .i64 y.x.date, .int .i64 y.x.kind, .int .i64 y.x.of_, .string y.x.text, .slice y.a y.x.lines.length y.c] 50) = w6 := ⟨_, rfl⟩
            rw [hw6] at hrow k0' k1 k2 hk6 q0 q1 q2 q3 q4 q5 q6 q7 ht4 ht5 ⊢
            have HROW := Lib.hid hrow
            have HK6 := Lib.hid hk6
            have HX6 : Hid (∀ W, RS (w.heap.size + 1 + 1) (w.heap.size + 1 + 1 + 1) 7 3 C l.cells w6.drew W → (W.cell? ⟨wq.heap.size, 0, none⟩ = some (.int .i64 y.x.id) ∧ W.cell? ⟨wq.heap.size, 1, none⟩ = some (.int .i64 y.x.ent) ∧ W.cell? ⟨wq.heap.size, 2, none⟩ = some (.int .i64 y.x.date) ∧ W.cell? ⟨wq.heap.size, 3, none⟩ = some (.int .i64 y.x.kind) ∧ W.cell? ⟨wq.heap.size, 4, none⟩ = some (.int .i64 y.x.of_) ∧ W.cell? ⟨wq.heap.size, 5, none⟩ = some (.string y.x.text) ∧ W.cell? ⟨wq.heap.size, 6, none⟩ = some (.slice y.a y.x.lines.length y.c)) ∧ W.cell? ⟨w.heap.size + 1, 1, none⟩ = some (.int .i64 n) ∧
                W.cell? ⟨y.b, y.o + n * 3, none⟩ = some (.int .i64 l.acc) ∧ W.cell? ⟨y.b, y.o + n * 3 + 1, none⟩ = some (.int .i64 l.amt) ∧ W.cell? ⟨y.b, y.o + n * 3 + 2, none⟩ = some (.int .i64 l.ptn) ∧ W.there (w.heap.size + 1 + 1) 0 7 ∧ W.there (w.heap.size + 1 + 1 + 1) 0 3) := Lib.hid (fun W hW => by
              have hc : ∀ p : Addr, p.block ≠ w.heap.size + 1 + 1 → p.block ≠ w.heap.size + 1 + 1 + 1 → ∀ v, w6.cell? p = some v → W.cell? p = some v := fun p h1 h2 v hv => hW.cell p h1 h2 v hv
              refine ⟨⟨hc _ ?_ ?_ _ q0, hc _ ?_ ?_ _ q1, hc _ ?_ ?_ _ q2, hc _ ?_ ?_ _ q3, hc _ ?_ ?_ _ q4, hc _ ?_ ?_ _ q5, hc _ ?_ ?_ _ q6⟩, hc _ ?_ ?_ _ q7, hc _ ?_ ?_ _ k0', hc _ ?_ ?_ _ k1, hc _ ?_ ?_ _ k2, hW.t1 ht4, hW.t2 ht5⟩ <;> (simp only; omega))
            clear q0 q1 q2 q3 q4 q5 q6 q7 k0' k1 k2 ht4 ht5 hrow hk6 d0 d1 d2 d3 d4 d5 d6 c21a r1a hw6
            refine wp_region_steps (A := ?_) (RS (w.heap.size + 1 + 1) (w.heap.size + 1 + 1 + 1) 7 3 C l.cells) [some 43, some 44, some 45, some 46, some 47, some 48, some 49, none, none, some 6] [[], [], [1], [], [3], [2, 4], [5], [0], [6], []] 10 (by kernel_rfl) (by kernel_rfl) (by kernel_rfl) (by kernel_rfl) (by kernel_rfl) (by kernel_rfl) RS.refl (fun _ _ _ => RS.trans) ?_ ?_
            rotate_left
            · intro f; simp only [putL, Act.put, List.setIfInBounds_toArray, List.set_cons_zero, List.set_cons_succ, Nat.zero_add, Nat.reduceAdd]; exact rfl
            refine Steps.pure (v := ?_) RS.refl rfl (fun f w' hR hV => ⟨?_, ?_⟩) ?_
            rotate_left
            · (rfl)
            · (clear hV; obtain ⟨⟨y0, y1, y2, y3, y4, y5, y6⟩, y7, m0, m1, m2, u4, u5⟩ := HX6.out _ hR; go_simp; all_goals (try with_reducible rfl))
            refine Steps.pure (v := ?_) RS.refl rfl (fun f w' hR hV => ⟨?_, ?_⟩) ?_
            rotate_left
            · (rfl)
            · (clear hV; obtain ⟨⟨y0, y1, y2, y3, y4, y5, y6⟩, y7, m0, m1, m2, u4, u5⟩ := HX6.out _ hR; go_simp; all_goals (try with_reducible rfl))
            refine Steps.pure (v := ?_) RS.refl rfl (fun f w' hR hV => ⟨?_, ?_⟩) ?_
            rotate_left
            · (rfl)
            · (obtain ⟨h1, _⟩ := hV; replace h1 : f 1 = _ := h1; obtain ⟨⟨y0, y1, y2, y3, y4, y5, y6⟩, y7, m0, m1, m2, u4, u5⟩ := HX6.out _ hR; go_simp; all_goals (try with_reducible rfl))
            refine Steps.pure (v := ?_) RS.refl rfl (fun f w' hR hV => ⟨?_, ?_⟩) ?_
            rotate_left
            · (rfl)
            · (clear hV; obtain ⟨⟨y0, y1, y2, y3, y4, y5, y6⟩, y7, m0, m1, m2, u4, u5⟩ := HX6.out _ hR; go_simp; all_goals (try with_reducible rfl))
            refine Steps.pure (v := ?_) RS.refl rfl (fun f w' hR hV => ⟨?_, ?_⟩) ?_
            rotate_left
            · (rfl)
            · (obtain ⟨h3, _⟩ := hV; replace h3 : f 3 = _ := h3; obtain ⟨⟨y0, y1, y2, y3, y4, y5, y6⟩, y7, m0, m1, m2, u4, u5⟩ := HX6.out _ hR; go_simp; all_goals (try with_reducible rfl))
            refine Steps.pure (v := ?_) RS.refl rfl (fun f w' hR hV => ⟨?_, ?_⟩) ?_
            rotate_left
            · (rfl)
            · (obtain ⟨h2, h4, _⟩ := hV; replace h2 : f 2 = _ := h2; replace h4 : f 4 = _ := h4; obtain ⟨⟨y0, y1, y2, y3, y4, y5, y6⟩, y7, m0, m1, m2, u4, u5⟩ := HX6.out _ hR; go_simp; all_goals (try with_reducible rfl))
            refine Steps.pure (v := ?_) RS.refl rfl (fun f w' hR hV => ⟨?_, ?_⟩) ?_
            rotate_left
            · (rfl)
            · (obtain ⟨h5, _⟩ := hV; replace h5 : f 5 = _ := h5; obtain ⟨⟨y0, y1, y2, y3, y4, y5, y6⟩, y7, m0, m1, m2, u4, u5⟩ := HX6.out _ hR; go_simp; all_goals (try with_reducible rfl))
            refine Steps.call (fun W _ => W.rangeAt (w.heap.size + 1 + 1) 0 C) rfl (fun _ _ _ k h => k.r1 h) (fun f w' hR hV => ⟨?_, ?_⟩) ?_
            · (rfl)
            · (obtain ⟨h0, _⟩ := hV; replace h0 : f 0 = _ := h0; obtain ⟨⟨y0, y1, y2, y3, y4, y5, y6⟩, y7, m0, m1, m2, u4, u5⟩ := HX6.out _ hR; exact wp_store_mid 50 (.tmp 4) (.tmp 43) rfl (w.heap.size + 1 + 1) 0 C.toArray rfl (by rw [hC]; exact h0) (by rw [hC]; exact u4) (by rw [hC]; exact enSize) (by rw [hC]; exact all_oneCell_toArray (JV.one y)) (StepPost.of _ rfl (World.rangeAt_setCells_same _ _ _ _ (by rw [hC]; exact u4)) (RS.set1 (by omega) (by rw [hC]; exact u4))))
            refine Steps.call (fun W _ => W.rangeAt (w.heap.size + 1 + 1 + 1) 0 l.cells) rfl (fun _ _ _ k h => k.r2 h) (fun f w' hR hV => ⟨?_, ?_⟩) ?_
            · (rfl)
            · (obtain ⟨h6, _⟩ := hV; replace h6 : f 6 = _ := h6; obtain ⟨⟨y0, y1, y2, y3, y4, y5, y6⟩, y7, m0, m1, m2, u4, u5⟩ := HX6.out _ hR; exact wp_store_mid 56 (.tmp 5) (.tmp 49) rfl (w.heap.size + 1 + 1 + 1) 0 l.cells.toArray rfl h6 u5 lnSize (all_oneCell_toArray (Ln.one l)) (StepPost.of _ rfl (World.rangeAt_setCells_same _ _ _ _ u5) (RS.set2 (by omega) u5)))
            refine Steps.pure (v := ?_) RS.refl rfl (fun f w' hR hV => ⟨?_, ?_⟩) ?_
            rotate_left
            · (rfl)
            · (clear hV; obtain ⟨⟨y0, y1, y2, y3, y4, y5, y6⟩, y7, m0, m1, m2, u4, u5⟩ := HX6.out _ hR; go_simp; all_goals (try with_reducible rfl))
            all_goals (refine Steps.done [7, 8, 9] (by kernel_rfl) rfl (fun f wz hR hV => ?_); obtain ⟨h7, h8, h9, _⟩ := hV; replace h7 : wz.rangeAt (w.heap.size + 1 + 1) 0 C := h7; replace h8 : wz.rangeAt (w.heap.size + 1 + 1 + 1) 0 l.cells := h8; replace h9 : f 9 = _ := h9; simp only [h9])
            go_wp2_with fail
            refine bodyPost_ret (results_two rfl _ wz (w.heap.size + 1 + 1) (w.heap.size + 1 + 1 + 1) C l.cells _ _ rfl h7 Try.underlying50 rfl (by rw [hC]; exact enSize) rfl h8 Try.underlying56 rfl lnSize) rfl ?_
            rw [HQ.out, hl]
            refine ⟨y.a, y.c, y.b, y.o, by rw [hC]; rfl, ⟨HROW.out.len, HROW.out.le, HROW.out.nocap, HROW.out.cap, HROW.out.addr, fun j u hu => hR.cell _ ?_ ?_ _ (Sl.cell HROW.out j u hu)⟩, hR.keep w (by omega) (by omega) HK6.out.drew⟩ <;> (simp only; omega)
          · have e8 : decide ((y.x.lines.length : Int) ≤ (n : Int)) = true := by simp; omega
            have HQ : Hid (findS es k n = (Jrn.zero, Ln.zero, false)) := Lib.hid (findS_bad hlt (by rw [hy]; unfold lineAt; rw [if_neg hn]; simp; omega))
            clear hn hy hi hr
            go_wp2_with fail
            go_quiet (fail)
            obtain ⟨wq, hwq⟩ : ∃ wq, wa.drewN nq = wq := ⟨_, rfl⟩
            have hkq : Keeps wa wq := by rw [← hwq]; exact (Keeps.refl wa).drewN nq
            have HKW := Lib.hid (HW.out.1.trans hkq)
            have HBW := Lib.hid (HW.out.2.1.keeps hkq)
            rw [hwq]
            clear hwq
            replace c21a := hkq.cell c21a
            replace r1a := hkq.cell r1a
            replace d0 := hkq.cell d0
            replace d1 := hkq.cell d1
            replace d2 := hkq.cell d2
            replace d3 := hkq.cell d3
            replace d4 := hkq.cell d4
            replace d5 := hkq.cell d5
            replace d6 := hkq.cell d6
            have hzq := HBW.out.size
            have HBQ := Lib.hid (HBW.out.keeps ((Keeps.refl wq).alloc (.cells #[.int .i64 y.x.id, .int .i64 y.x.ent, .int .i64 y.x.date, .int .i64 y.x.kind, .int .i64 y.x.of_, .string y.x.text, .slice y.a y.x.lines.length y.c] 50)))
            have HKQ := Lib.hid (HKW.out.alloc (.cells #[.int .i64 y.x.id, .int .i64 y.x.ent, .int .i64 y.x.date, .int .i64 y.x.kind, .int .i64 y.x.of_, .string y.x.text, .slice y.a y.x.lines.length y.c] 50))
            have q7 := HBQ.out.r1
            go_wp2_with (first | (refine wpList_mid rfl 50 (.tmp 4) (.tmp 41) rfl (w.heap.size + 1 + 1) 7 [.int .i64 0, .int .i64 0, .int .i64 0, .int .i64 0, .int .i64 0, .string ⟨#[]⟩, .slice none 0 0] rfl rfl rfl HBQ.out.t4 enSize (JV.one ⟨Jrn.zero, none, 0, 0, 0⟩) ?_; intro w5 hw5) | (refine wpList_mid rfl 56 (.tmp 5) (.tmp 42) rfl (w.heap.size + 1 + 1 + 1) 3 [.int .i64 0, .int .i64 0, .int .i64 0] rfl rfl rfl (by rw [← hw5]; exact there_setCells HBQ.out.t5 _ _ _ (by omega)) lnSize (Ln.one Ln.zero) ?_; intro w6 hw6))
            rw [HQ.out]
            exact find_end rfl w _ w.heap.size Jrn.zero Ln.zero false none 0 0 0 (Sl.nil _ _) (by omega) (by omega) HBQ.out.t4 HBQ.out.t5 HKQ.out rfl _ rfl rfl rfl _ _ hw5 hw6
      · have ei : (y.x.id != re) = true := by simpa using hi
        have HN2 : Hid (∀ e ∈ es.take (k + 1), e.x.id ≠ re) := Lib.hid (by
          rw [take_snoc _ k hlt]
          intro q hq
          rcases List.mem_append.1 hq with h | h
          · exact HN.out q h
          · rw [List.mem_singleton] at h; rw [h, hy]; exact hi)
        clear hy hi hr
        go_wp2_with fail
        go_quiet (fail)
        go_wp2_with fail
        go_roundw
        case rel => exact ⟨k + 1, by omega, by go_num, HN2, Lib.hid ⟨HW.out.1.drewN _, HW.out.2.1.keeps ((Keeps.refl wa).drewN _), c21a⟩⟩
        case measure => simp [intOf]; omega
    · obtain rfl : k = es.length := by omega
      have hkk : es.length = k0 := FstE.unique ⟨HN.out, hk, fun h => absurd h (Nat.lt_irrefl _)⟩ HFE.out
      have HQ : Hid (findS es k0 rl = (Jrn.zero, Ln.zero, false)) := Lib.hid (findS_none (by omega))
      have HBQ := Lib.hid HW.out.2.1
      have HKQ := Lib.hid HW.out.1
      go_wp2_with (first | (refine wpList_mid rfl 50 (.tmp 4) (.tmp 50) rfl (w.heap.size + 1 + 1) 7 [.int .i64 0, .int .i64 0, .int .i64 0, .int .i64 0, .int .i64 0, .string ⟨#[]⟩, .slice none 0 0] rfl rfl rfl HBQ.out.t4 enSize (JV.one ⟨Jrn.zero, none, 0, 0, 0⟩) ?_; intro w5 hw5) | (refine wpList_mid rfl 56 (.tmp 5) (.tmp 51) rfl (w.heap.size + 1 + 1 + 1) 3 [.int .i64 0, .int .i64 0, .int .i64 0] rfl rfl rfl (by rw [← hw5]; exact there_setCells HBQ.out.t5 _ _ _ (by omega)) lnSize (Ln.one Ln.zero) ?_; intro w6 hw6))
      rw [HQ.out]
      exact find_end rfl w wa w.heap.size Jrn.zero Ln.zero false none 0 0 0 (Sl.nil _ _) (by omega) (by omega) HBQ.out.t4 HBQ.out.t5 HKQ.out rfl _ rfl rfl rfl _ _ hw5 hw6
end Go.Proofs.Ytfddhmhagijodaa
