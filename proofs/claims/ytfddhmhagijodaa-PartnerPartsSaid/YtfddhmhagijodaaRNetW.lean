/- The reference's Net: the plain part and the walk. -/
import Derived.Test.YtfddhmhagijodaaRPlsW
import Derived.Test.YtfddhmhagijodaaNetW
namespace Go.Proofs.Ytfddhmhagijodaa
open Go.RowKit
set_option linter.unusedSimpArgs false
set_option linter.unusedVariables false

theorem putN_hit : ∀ {g : List Bal} {a x : Int} {n : Nat} (hn : n < g.length), (∀ j (hj : j < g.length), j < n → g[j].acc < a) → g[n].acc = a → putN g a x = g.set n ⟨a, wr64 (g[n].amount + x)⟩
  | q :: t, a, x, 0, hn, _, he => by
    simp only [List.getElem_cons_zero] at he
    unfold putN
    rw [if_neg (by omega), if_pos he]; rfl
  | q :: t, a, x, n + 1, hn, hb, he => by
    have h1 : q.acc < a := hb 0 (by simp) (by omega)
    unfold putN
    rw [if_pos h1, putN_hit (n := n) (by simpa using hn) (fun j hj hjn => hb (j + 1) (Nat.succ_lt_succ hj) (Nat.succ_lt_succ hjn)) he]
    simp
theorem putN_new : ∀ {g : List Bal} {a x : Int} {n : Nat}, n ≤ g.length → (∀ j (hj : j < g.length), j < n → g[j].acc < a) → (∀ h : n < g.length, a < g[n].acc) → putN g a x = g.take n ++ [⟨a, x⟩] ++ g.drop n
  | [], a, x, n, h, _, _ => by simp [putN]
  | q :: t, a, x, 0, _, _, h0 => by
    have := h0 (by simp)
    simp only [List.getElem_cons_zero] at this
    unfold putN
    rw [if_neg (by omega), if_neg (by omega)]; simp
  | q :: t, a, x, n + 1, hn, hb, h0 => by
    have h1 : q.acc < a := hb 0 (by simp) (by omega)
    unfold putN
    rw [if_pos h1, putN_new (n := n) (by simpa using hn) (fun j hj hjn => hb (j + 1) (Nat.succ_lt_succ hj) (Nat.succ_lt_succ hjn)) (fun h => h0 (Nat.succ_lt_succ h))]
    simp
def netR (L : List RP) : List Bal := L.foldl (fun g p => putN g p.l.acc p.l.amt) []
theorem netR_snoc (L : List RP) (p : RP) : netR (L ++ [p]) = putN (netR L) p.l.acc p.l.amt := by unfold netR; rw [List.foldl_append]; rfl
theorem netR_len (L : List RP) : (netR L).length ≤ L.length := by
  have h : ∀ (M : List RP) (g : List Bal), (M.foldl (fun g p => putN g p.l.acc p.l.amt) g).length ≤ g.length + M.length := by
    intro M
    induction M with
    | nil => intro g; simp
    | cons p M ih => intro g; rw [List.foldl_cons]; have := ih (putN g p.l.acc p.l.amt); have := putN_len g p.l.acc p.l.amt; rw [List.length_cons]; omega
  have := h L []
  simpa [netR] using this
theorem netR_is (L : List RP) (h : ∀ p ∈ L, I64 p.l.amt) : NetIs (L.map RP.plc) (netR L) := by
  have key : ∀ (M D : List RP) (g : List Bal), NetIs (D.map RP.plc) g → (∀ p ∈ M, I64 p.l.amt) → NetIs ((D ++ M).map RP.plc) (M.foldl (fun g p => putN g p.l.acc p.l.amt) g) := by
    intro M
    induction M with
    | nil => intro D g hg _; simpa using hg
    | cons p M ih =>
      intro D g hg hM
      have h1 := hg.put p.plc (hM p (List.mem_cons_self ..))
      have := ih (D ++ [p]) (putN g p.l.acc p.l.amt) (by rw [List.map_append]; exact h1) (fun q hq => hM q (List.mem_cons_of_mem _ hq))
      rw [List.foldl_cons]
      simpa using this
  have := key L [] [] NetIs.nil h
  simpa [netR] using this
theorem ones_bal (l : List Bal) : ∀ u ∈ l.flatMap Bal.cells, u.oneCell' = true := fun u hu => by
  obtain ⟨a, _, hu⟩ := List.mem_flatMap.1 hu
  simp [Bal.cells] at hu
  rcases hu with rfl | rfl <;> rfl
theorem flat_setN (l : List Bal) (k : Nat) (hk : k < l.length) (acc n : Int) (he : l[k].acc = acc) : (l.set k ⟨acc, n⟩).flatMap Bal.cells = (l.flatMap Bal.cells).set (k * 2 + 1) (.int .i64 n) := by
  induction l generalizing k with
  | nil => exact absurd hk (Nat.not_lt_zero _)
  | cons x l ih =>
    cases k with
    | zero => simp only [List.getElem_cons_zero] at he; subst he; rfl
    | succ k =>
      rw [List.set_cons_succ, List.flatMap_cons, List.flatMap_cons, ih k (by simpa using hk) (by simpa using he)]
      rw [List.set_append_right _ _ (by simp [Bal.cells]; omega)]
      have : (k + 1) * 2 + 1 - x.cells.length = k * 2 + 1 := by simp [Bal.cells]; omega
      rw [this]
set_option maxRecDepth 100000 in
set_option maxHeartbeats 16000000 in
theorem rnet_any (bv : List Value) (es : List JV) (ms : List MV) (en pt date : Int) (w : World) (H : Bks w bv es ms) (hn : es.length ≤ 40) (hm : ∀ e ∈ es, e.x.lines.length ≤ 8) :
    Calls Try.prog 14 #[.agg bv.toArray, .int .i64 en, .int .i64 pt, .int .i64 date] w
      fun e w' => ∃ v, e = .returned v ∧ w'.ownsRow w.heap.size 52 2 v (nzN (netR (rbtw date en pt es))).length ((nzN (netR (rbtw date en pt es))).flatMap Bal.cells) ∧ Keeps w w' := by
  have hbl := H.len
  have HPL := Lib.hid (fun W hW => rpls_any bv es ms en pt date W (H.keeps hW) hn hm)
  have hlen : (rbtw date en pt es).length ≤ 320 := by have := rbtw_len date en pt es hm; omega
  obtain ⟨P, hP⟩ : ∃ P, rbtw date en pt es = P := ⟨_, rfl⟩
  rw [hP] at HPL hlen ⊢
  clear hP H hm
  have hrg := box_range w bv 36
  have hk0 : Keeps w (w.alloc (.cells bv.toArray 36)) := (Keeps.refl w).alloc _
  go_enter Try.func14, Try.ntmps14
  go_wp2_with (first | (refine wpList_books rfl (.tmp 4) rfl w.heap.size bv hbl rfl hrg ?_; clear hrg) | (go_at_call 31; refine (HPL.out _ hk0).mono ?_; rintro e w1 ⟨v1, rfl, ho1, hk1⟩; obtain ⟨ao1, cap1, b1, e1, hs1⟩ := Sl.own ho1; subst e1; have HSP := Lib.hid hs1; have HKP := Lib.hid (hk0.trans hk1); clear hk1 hk0 ho1))
  have hcap1 := HSP.out.cap
  have hle1 := HSP.out.le
  go_loopw [9, 11] (fun vo vi wr => ∃ (i : Nat) (g : List Bal), i ≤ P.length ∧ g.length ≤ i ∧ vi = .int .i64 i ∧ Hid (g = netR (P.take i)) ∧ Hid (Keeps w1 wr ∧ wr.ownsRow w1.heap.size 52 2 vo g.length (g.flatMap Bal.cells))) (fun _ vi _ => P.length - (intOf vi).toNat)
  case atStart => exact ⟨0, [], Nat.zero_le _, Nat.le_refl _, rfl, Lib.hid rfl, Lib.hid ⟨Keeps.refl w1, World.ownsRow_nil _ _ _ _⟩⟩
  case round =>
    obtain ⟨i, g, hi, hgi, rfl, HG, HW⟩ := hrel
    obtain ⟨wa, rfl⟩ : ∃ wa : World, wa = wr := ⟨_, rfl⟩
    by_cases hlt : i < P.length
    · obtain ⟨p, hpk⟩ : ∃ p, P[i] = p := ⟨_, rfl⟩
      have hixp := Sl.at (show Recs wa 14 RP.cells ao1 P cap1 b1 0 from HSP.out.keeps HW.out.1) Try.underlying81 Try.sizeOf84 i hlt
      simp only [Nat.zero_add] at hixp
      have HL : Hid (∀ W, Keeps wa W → W.cell? ⟨b1, i * 14 + 7, none⟩ = some (.int .i64 p.l.acc) ∧ W.cell? ⟨b1, i * 14 + 8, none⟩ = some (.int .i64 p.l.amt)) := Lib.hid (fun W hW => by
        have hr : Recs W 14 RP.cells ao1 P cap1 b1 0 := HSP.out.keeps (HW.out.1.trans hW)
        have h7 := hr.cell RP.len i hlt 7 (.int .i64 p.l.acc) (by rw [hpk]; rfl)
        have h8 := hr.cell RP.len i hlt 8 (.int .i64 p.l.amt) (by rw [hpk]; rfl)
        simp only [Nat.zero_add] at h7 h8
        exact ⟨h7, h8⟩)
      have HG2 : Hid (putN g p.l.acc p.l.amt = netR (P.take (i + 1))) := Lib.hid (by rw [take_snoc _ i hlt, hpk, netR_snoc, ← HG.out])
      obtain ⟨ao3, cap3, b3, e3, hs3⟩ := Sl.own HW.out.2
      subst e3
      have HS3 := Lib.hid hs3
      have hcap3 := hs3.cap
      have hle3 := hs3.le
      clear hpk hs3
      go_wp2_with fail
      go_loopw [12] (fun vn w4 => ∃ n : Nat, n ≤ g.length ∧ vn = .int .i64 n ∧ Hid (Keeps wa w4) ∧ Hid (∀ j (hj : j < g.length), j < n → g[j].acc < p.l.acc)) (fun vn _ => g.length - (intOf vn).toNat)
      case atStart => exact ⟨0, Nat.zero_le _, rfl, Lib.hid (Keeps.refl wa), Lib.hid (fun j _ h => absurd h (Nat.not_lt_zero _))⟩
      case round =>
        obtain ⟨n, hnM, rfl, HKN, HB4⟩ := hrel
        obtain ⟨wd, rfl⟩ : ∃ wd : World, wd = wr := ⟨_, rfl⟩
        by_cases hlt2 : n < g.length
        · have hix4 := Sl.at (show Recs wa 2 Bal.cells ao3 g cap3 b3 0 from HS3.out) Try.underlying42 Try.sizeOf52 n hlt2
          simp only [Nat.zero_add] at hix4
          obtain ⟨q, hq⟩ : ∃ q, g[n] = q := ⟨_, rfl⟩
          have HQ : Hid (∀ W, Keeps wa W → W.cell? ⟨b3, n * 2, none⟩ = some (.int .i64 q.acc) ∧ W.cell? ⟨b3, n * 2 + 1, none⟩ = some (.int .i64 q.amount)) := Lib.hid (fun W hW => by
            have hr : Recs W 2 Bal.cells ao3 g cap3 b3 0 := HS3.out.keeps hW
            have h0 := hr.cell Bal.len n hlt2 0 (.int .i64 q.acc) (by rw [hq]; rfl)
            have h1 := hr.cell Bal.len n hlt2 1 (.int .i64 q.amount) (by rw [hq]; rfl)
            simp only [Nat.zero_add, Nat.add_zero] at h0 h1
            exact ⟨h0, h1⟩)
          have HX : Hid (∀ W, Keeps wd.drew W → W.cell? ⟨b3, n * 2, none⟩ = some (.int .i64 q.acc) ∧ W.cell? ⟨b1, i * 14 + 7, none⟩ = some (.int .i64 p.l.acc)) := Lib.hid (fun W hW => ⟨(HQ.out W (HKN.out.drew.trans hW)).1, (HL.out W (HKN.out.drew.trans hW)).1⟩)
          have hdl : decide ((n : Int) < (g.length : Int)) = true := by simp; omega
          by_cases hc : q.acc < p.l.acc
          · have ec : decide (q.acc < p.l.acc) = true := by simpa using hc
            have HB5 : Hid (∀ j (hj : j < g.length), j < n + 1 → g[j].acc < p.l.acc) := Lib.hid (fun j hj h => by
              rcases Nat.lt_succ_iff_lt_or_eq.1 h with h | rfl
              · exact HB4.out j hj h
              · rw [hq]; exact hc)
            clear hc hq
            go_wp2_with fail
            refine wp_region_steps (A := ?_) Keeps [some 27, some 28, some 29, some 30, some 31, some 32, some 33, some 34, some 35, some 36, some 37, some 38, some 39, some 40, some 41, some 42, some 43, some 44] [[], [], [1], [0, 2], [3], [4], [4], [4, 5, 6], [4, 7], [4, 8], [4], [4], [4, 10, 11], [4, 12], [4, 13], [4, 14], [4, 9, 15], [4, 16]] 18 (by kernel_rfl) (by kernel_rfl) (by kernel_rfl) (by kernel_rfl) (by kernel_rfl) (by kernel_rfl) Keeps.refl (fun _ _ _ => Keeps.trans) ?_ ?_
            rotate_left
            · intro f; simp only [putL, Act.put, List.setIfInBounds_toArray, List.set_cons_zero, List.set_cons_succ, Nat.zero_add, Nat.reduceAdd]; exact rfl
            refine Steps.pure (v := ?_) Keeps.refl rfl (fun f w' hR hV => ⟨?_, ?_⟩) ?_
            rotate_left
            · (rfl)
            · (clear hV; obtain ⟨x0, x1⟩ := HX.out _ hR; go_simp; all_goals (try with_reducible rfl))
            refine Steps.pure (v := ?_) Keeps.refl rfl (fun f w' hR hV => ⟨?_, ?_⟩) ?_
            rotate_left
            · (rfl)
            · (clear hV; obtain ⟨x0, x1⟩ := HX.out _ hR; go_simp; all_goals (try with_reducible rfl))
            refine Steps.pure (v := ?_) Keeps.refl rfl (fun f w' hR hV => ⟨?_, ?_⟩) ?_
            rotate_left
            · (rfl)
            · (obtain ⟨h1, _⟩ := hV; replace h1 : f 1 = _ := h1; obtain ⟨x0, x1⟩ := HX.out _ hR; go_simp; all_goals (try with_reducible rfl))
            refine Steps.pure (v := ?_) Keeps.refl rfl (fun f w' hR hV => ⟨?_, ?_⟩) ?_
            rotate_left
            · (rfl)
            · (obtain ⟨h0, h2, _⟩ := hV; replace h0 : f 0 = _ := h0; replace h2 : f 2 = _ := h2; obtain ⟨x0, x1⟩ := HX.out _ hR; go_simp; all_goals (try with_reducible rfl))
            refine Steps.pure (v := ?_) Keeps.refl rfl (fun f w' hR hV => ⟨?_, ?_⟩) ?_
            rotate_left
            · (rfl)
            · (obtain ⟨h3, _⟩ := hV; replace h3 : f 3 = _ := h3; obtain ⟨x0, x1⟩ := HX.out _ hR; go_simp; all_goals (try with_reducible rfl))
            all_goals first
              | (refine Steps.pure (v := ?_) Keeps.refl rfl (fun f w' hR hV => ⟨?_, ?_⟩) ?_
                 rotate_left
                 · (obtain ⟨h4, _⟩ := hV; replace h4 : f 4 = _ := h4; exact want_yes (t := 31) rfl (by kernel_rfl) rfl h4)
                 · (obtain ⟨h4, _⟩ := hV; replace h4 : f 4 = _ := h4; obtain ⟨x0, x1⟩ := HX.out _ hR; go_simp; all_goals (try with_reducible rfl)))
              | (refine Steps.skip rfl (fun f w' hR hV => ?_) ?_
                 · (obtain ⟨h4, _⟩ := hV; replace h4 : f 4 = _ := h4; first | exact want_no (t := 31) rfl (by kernel_rfl) rfl h4 rfl | exact want_undef (t := 31) rfl (by kernel_rfl) rfl h4))
            all_goals first
              | (refine Steps.pure (v := ?_) Keeps.refl rfl (fun f w' hR hV => ⟨?_, ?_⟩) ?_
                 rotate_left
                 · (obtain ⟨h4, _⟩ := hV; replace h4 : f 4 = _ := h4; exact want_yes (t := 31) rfl (by kernel_rfl) rfl h4)
                 · (obtain ⟨h4, _⟩ := hV; replace h4 : f 4 = _ := h4; obtain ⟨x0, x1⟩ := HX.out _ hR; go_simp; all_goals (try with_reducible rfl)))
              | (refine Steps.skip rfl (fun f w' hR hV => ?_) ?_
                 · (obtain ⟨h4, _⟩ := hV; replace h4 : f 4 = _ := h4; first | exact want_no (t := 31) rfl (by kernel_rfl) rfl h4 rfl | exact want_undef (t := 31) rfl (by kernel_rfl) rfl h4))
            all_goals first
              | (refine Steps.pure (v := ?_) Keeps.refl rfl (fun f w' hR hV => ⟨?_, ?_⟩) ?_
                 rotate_left
                 · (obtain ⟨h4, _, _, _⟩ := hV; replace h4 : f 4 = _ := h4; exact want_yes (t := 31) rfl (by kernel_rfl) rfl h4)
                 · (obtain ⟨h4, h5, h6, _⟩ := hV; replace h4 : f 4 = _ := h4; replace h5 : f 5 = _ := h5; replace h6 : f 6 = _ := h6; obtain ⟨x0, x1⟩ := HX.out _ hR; go_simp; all_goals (try with_reducible rfl)))
              | (refine Steps.skip rfl (fun f w' hR hV => ?_) ?_
                 · (obtain ⟨h4, _, _, _⟩ := hV; replace h4 : f 4 = _ := h4; first | exact want_no (t := 31) rfl (by kernel_rfl) rfl h4 rfl | exact want_undef (t := 31) rfl (by kernel_rfl) rfl h4))
            all_goals first
              | (refine Steps.pure (v := ?_) Keeps.refl rfl (fun f w' hR hV => ⟨?_, ?_⟩) ?_
                 rotate_left
                 · (obtain ⟨h4, _, _⟩ := hV; replace h4 : f 4 = _ := h4; exact want_yes (t := 31) rfl (by kernel_rfl) rfl h4)
                 · (obtain ⟨h4, h7, _⟩ := hV; replace h4 : f 4 = _ := h4; replace h7 : f 7 = _ := h7; obtain ⟨x0, x1⟩ := HX.out _ hR; go_simp; all_goals (try with_reducible rfl)))
              | (refine Steps.skip rfl (fun f w' hR hV => ?_) ?_
                 · (obtain ⟨h4, _, _⟩ := hV; replace h4 : f 4 = _ := h4; first | exact want_no (t := 31) rfl (by kernel_rfl) rfl h4 rfl | exact want_undef (t := 31) rfl (by kernel_rfl) rfl h4))
            all_goals first
              | (refine Steps.pure (v := ?_) Keeps.refl rfl (fun f w' hR hV => ⟨?_, ?_⟩) ?_
                 rotate_left
                 · (obtain ⟨h4, _, _⟩ := hV; replace h4 : f 4 = _ := h4; exact want_yes (t := 31) rfl (by kernel_rfl) rfl h4)
                 · (obtain ⟨h4, h8, _⟩ := hV; replace h4 : f 4 = _ := h4; replace h8 : f 8 = _ := h8; obtain ⟨x0, x1⟩ := HX.out _ hR; go_simp; all_goals (try with_reducible rfl)))
              | (refine Steps.skip rfl (fun f w' hR hV => ?_) ?_
                 · (obtain ⟨h4, _, _⟩ := hV; replace h4 : f 4 = _ := h4; first | exact want_no (t := 31) rfl (by kernel_rfl) rfl h4 rfl | exact want_undef (t := 31) rfl (by kernel_rfl) rfl h4))
            all_goals first
              | (refine Steps.pure (v := ?_) Keeps.refl rfl (fun f w' hR hV => ⟨?_, ?_⟩) ?_
                 rotate_left
                 · (obtain ⟨h4, _⟩ := hV; replace h4 : f 4 = _ := h4; exact want_yes (t := 31) rfl (by kernel_rfl) rfl h4)
                 · (obtain ⟨h4, _⟩ := hV; replace h4 : f 4 = _ := h4; obtain ⟨x0, x1⟩ := HX.out _ hR; go_simp; all_goals (try with_reducible rfl)))
              | (refine Steps.skip rfl (fun f w' hR hV => ?_) ?_
                 · (obtain ⟨h4, _⟩ := hV; replace h4 : f 4 = _ := h4; first | exact want_no (t := 31) rfl (by kernel_rfl) rfl h4 rfl | exact want_undef (t := 31) rfl (by kernel_rfl) rfl h4))
            all_goals first
              | (refine Steps.pure (v := ?_) Keeps.refl rfl (fun f w' hR hV => ⟨?_, ?_⟩) ?_
                 rotate_left
                 · (obtain ⟨h4, _⟩ := hV; replace h4 : f 4 = _ := h4; exact want_yes (t := 31) rfl (by kernel_rfl) rfl h4)
                 · (obtain ⟨h4, _⟩ := hV; replace h4 : f 4 = _ := h4; obtain ⟨x0, x1⟩ := HX.out _ hR; go_simp; all_goals (try with_reducible rfl)))
              | (refine Steps.skip rfl (fun f w' hR hV => ?_) ?_
                 · (obtain ⟨h4, _⟩ := hV; replace h4 : f 4 = _ := h4; first | exact want_no (t := 31) rfl (by kernel_rfl) rfl h4 rfl | exact want_undef (t := 31) rfl (by kernel_rfl) rfl h4))
            all_goals first
              | (refine Steps.pure (v := ?_) Keeps.refl rfl (fun f w' hR hV => ⟨?_, ?_⟩) ?_
                 rotate_left
                 · (obtain ⟨h4, _, _, _⟩ := hV; replace h4 : f 4 = _ := h4; exact want_yes (t := 31) rfl (by kernel_rfl) rfl h4)
                 · (obtain ⟨h4, h10, h11, _⟩ := hV; replace h4 : f 4 = _ := h4; replace h10 : f 10 = _ := h10; replace h11 : f 11 = _ := h11; obtain ⟨x0, x1⟩ := HX.out _ hR; go_simp; all_goals (try with_reducible rfl)))
              | (refine Steps.skip rfl (fun f w' hR hV => ?_) ?_
                 · (obtain ⟨h4, _, _, _⟩ := hV; replace h4 : f 4 = _ := h4; first | exact want_no (t := 31) rfl (by kernel_rfl) rfl h4 rfl | exact want_undef (t := 31) rfl (by kernel_rfl) rfl h4))
            all_goals first
              | (refine Steps.pure (v := ?_) Keeps.refl rfl (fun f w' hR hV => ⟨?_, ?_⟩) ?_
                 rotate_left
                 · (obtain ⟨h4, _, _⟩ := hV; replace h4 : f 4 = _ := h4; exact want_yes (t := 31) rfl (by kernel_rfl) rfl h4)
                 · (obtain ⟨h4, h12, _⟩ := hV; replace h4 : f 4 = _ := h4; replace h12 : f 12 = _ := h12; obtain ⟨x0, x1⟩ := HX.out _ hR; go_simp; all_goals (try with_reducible rfl)))
              | (refine Steps.skip rfl (fun f w' hR hV => ?_) ?_
                 · (obtain ⟨h4, _, _⟩ := hV; replace h4 : f 4 = _ := h4; first | exact want_no (t := 31) rfl (by kernel_rfl) rfl h4 rfl | exact want_undef (t := 31) rfl (by kernel_rfl) rfl h4))
            all_goals first
              | (refine Steps.pure (v := ?_) Keeps.refl rfl (fun f w' hR hV => ⟨?_, ?_⟩) ?_
                 rotate_left
                 · (obtain ⟨h4, _, _⟩ := hV; replace h4 : f 4 = _ := h4; exact want_yes (t := 31) rfl (by kernel_rfl) rfl h4)
                 · (obtain ⟨h4, h13, _⟩ := hV; replace h4 : f 4 = _ := h4; replace h13 : f 13 = _ := h13; obtain ⟨x0, x1⟩ := HX.out _ hR; go_simp; all_goals (try with_reducible rfl)))
              | (refine Steps.skip rfl (fun f w' hR hV => ?_) ?_
                 · (obtain ⟨h4, _, _⟩ := hV; replace h4 : f 4 = _ := h4; first | exact want_no (t := 31) rfl (by kernel_rfl) rfl h4 rfl | exact want_undef (t := 31) rfl (by kernel_rfl) rfl h4))
            all_goals first
              | (refine Steps.pure (v := ?_) Keeps.refl rfl (fun f w' hR hV => ⟨?_, ?_⟩) ?_
                 rotate_left
                 · (obtain ⟨h4, _, _⟩ := hV; replace h4 : f 4 = _ := h4; exact want_yes (t := 31) rfl (by kernel_rfl) rfl h4)
                 · (obtain ⟨h4, h14, _⟩ := hV; replace h4 : f 4 = _ := h4; replace h14 : f 14 = _ := h14; obtain ⟨x0, x1⟩ := HX.out _ hR; go_simp; all_goals (try with_reducible rfl)))
              | (refine Steps.skip rfl (fun f w' hR hV => ?_) ?_
                 · (obtain ⟨h4, _, _⟩ := hV; replace h4 : f 4 = _ := h4; first | exact want_no (t := 31) rfl (by kernel_rfl) rfl h4 rfl | exact want_undef (t := 31) rfl (by kernel_rfl) rfl h4))
            all_goals first
              | (refine Steps.pure (v := ?_) Keeps.refl rfl (fun f w' hR hV => ⟨?_, ?_⟩) ?_
                 rotate_left
                 · (obtain ⟨h4, _, _, _⟩ := hV; replace h4 : f 4 = _ := h4; exact want_yes (t := 31) rfl (by kernel_rfl) rfl h4)
                 · (obtain ⟨h4, h9, h15, _⟩ := hV; replace h4 : f 4 = _ := h4; replace h9 : f 9 = _ := h9; replace h15 : f 15 = _ := h15; obtain ⟨x0, x1⟩ := HX.out _ hR; go_simp; all_goals (try with_reducible rfl)))
              | (refine Steps.skip rfl (fun f w' hR hV => ?_) ?_
                 · (obtain ⟨h4, _, _, _⟩ := hV; replace h4 : f 4 = _ := h4; first | exact want_no (t := 31) rfl (by kernel_rfl) rfl h4 rfl | exact want_undef (t := 31) rfl (by kernel_rfl) rfl h4))
            all_goals (
              refine Steps.pure (v := ?_) Keeps.refl rfl (fun f w' hR hV => ⟨?_, ?_⟩) ?_
              rotate_left
              · (rfl)
              · (obtain ⟨h4, h16, _⟩ := hV; replace h4 : f 4 = _ := h4; replace h16 : f 16 = _ := h16; obtain ⟨x0, x1⟩ := HX.out _ hR; go_simp; all_goals (try with_reducible rfl)))
            all_goals (refine Steps.done [17] (by kernel_rfl) rfl (fun f wq hR hV => ?_); obtain ⟨h17, _⟩ := hV; replace h17 : f 17 = _ := h17; simp only [h17])
            go_wp2_with fail
            go_roundw
            case rel => exact ⟨n + 1, by omega, by go_num, Lib.hid (HKN.out.trans ((Keeps.refl wd).drew.trans hR)), HB5⟩
            case measure => simp [intOf]; omega
          · have ec : decide (q.acc < p.l.acc) = false := by simpa using hc
            by_cases he : q.acc = p.l.acc
            · have ee : (q.acc == p.l.acc) = true := by simpa using he
              have HP := Lib.hid (putN_hit (x := p.l.amt) hlt2 HB4.out (by rw [hq]; exact he))
              have HFL := Lib.hid (flat_setN g n hlt2 p.l.acc (wr64 (q.amount + p.l.amt)) (by rw [hq]; exact he))
              rw [hq] at HP
              clear hc he hq
              go_wp2_with fail
              refine wp_region_steps (A := ?_) Keeps [some 27, some 28, some 29, some 30, some 31, some 32, some 33, some 34, some 35, some 36, some 37, some 38, some 39, some 40, some 41, some 42, some 43, some 44] [[], [], [1], [0, 2], [3], [4], [4], [4, 5, 6], [4, 7], [4, 8], [4], [4], [4, 10, 11], [4, 12], [4, 13], [4, 14], [4, 9, 15], [4, 16]] 18 (by kernel_rfl) (by kernel_rfl) (by kernel_rfl) (by kernel_rfl) (by kernel_rfl) (by kernel_rfl) Keeps.refl (fun _ _ _ => Keeps.trans) ?_ ?_
              rotate_left
              · intro f; simp only [putL, Act.put, List.setIfInBounds_toArray, List.set_cons_zero, List.set_cons_succ, Nat.zero_add, Nat.reduceAdd]; exact rfl
              refine Steps.pure (v := ?_) Keeps.refl rfl (fun f w' hR hV => ⟨?_, ?_⟩) ?_
              rotate_left
              · (rfl)
              · (clear hV; obtain ⟨x0, x1⟩ := HX.out _ hR; go_simp; all_goals (try with_reducible rfl))
              refine Steps.pure (v := ?_) Keeps.refl rfl (fun f w' hR hV => ⟨?_, ?_⟩) ?_
              rotate_left
              · (rfl)
              · (clear hV; obtain ⟨x0, x1⟩ := HX.out _ hR; go_simp; all_goals (try with_reducible rfl))
              refine Steps.pure (v := ?_) Keeps.refl rfl (fun f w' hR hV => ⟨?_, ?_⟩) ?_
              rotate_left
              · (rfl)
              · (obtain ⟨h1, _⟩ := hV; replace h1 : f 1 = _ := h1; obtain ⟨x0, x1⟩ := HX.out _ hR; go_simp; all_goals (try with_reducible rfl))
              refine Steps.pure (v := ?_) Keeps.refl rfl (fun f w' hR hV => ⟨?_, ?_⟩) ?_
              rotate_left
              · (rfl)
              · (obtain ⟨h0, h2, _⟩ := hV; replace h0 : f 0 = _ := h0; replace h2 : f 2 = _ := h2; obtain ⟨x0, x1⟩ := HX.out _ hR; go_simp; all_goals (try with_reducible rfl))
              refine Steps.pure (v := ?_) Keeps.refl rfl (fun f w' hR hV => ⟨?_, ?_⟩) ?_
              rotate_left
              · (rfl)
              · (obtain ⟨h3, _⟩ := hV; replace h3 : f 3 = _ := h3; obtain ⟨x0, x1⟩ := HX.out _ hR; go_simp; all_goals (try with_reducible rfl))
              all_goals first
                | (refine Steps.pure (v := ?_) Keeps.refl rfl (fun f w' hR hV => ⟨?_, ?_⟩) ?_
                   rotate_left
                   · (obtain ⟨h4, _⟩ := hV; replace h4 : f 4 = _ := h4; exact want_yes (t := 31) rfl (by kernel_rfl) rfl h4)
                   · (obtain ⟨h4, _⟩ := hV; replace h4 : f 4 = _ := h4; obtain ⟨x0, x1⟩ := HX.out _ hR; go_simp; all_goals (try with_reducible rfl)))
                | (refine Steps.skip rfl (fun f w' hR hV => ?_) ?_
                   · (obtain ⟨h4, _⟩ := hV; replace h4 : f 4 = _ := h4; first | exact want_no (t := 31) rfl (by kernel_rfl) rfl h4 rfl | exact want_undef (t := 31) rfl (by kernel_rfl) rfl h4))
              all_goals first
                | (refine Steps.pure (v := ?_) Keeps.refl rfl (fun f w' hR hV => ⟨?_, ?_⟩) ?_
                   rotate_left
                   · (obtain ⟨h4, _⟩ := hV; replace h4 : f 4 = _ := h4; exact want_yes (t := 31) rfl (by kernel_rfl) rfl h4)
                   · (obtain ⟨h4, _⟩ := hV; replace h4 : f 4 = _ := h4; obtain ⟨x0, x1⟩ := HX.out _ hR; go_simp; all_goals (try with_reducible rfl)))
                | (refine Steps.skip rfl (fun f w' hR hV => ?_) ?_
                   · (obtain ⟨h4, _⟩ := hV; replace h4 : f 4 = _ := h4; first | exact want_no (t := 31) rfl (by kernel_rfl) rfl h4 rfl | exact want_undef (t := 31) rfl (by kernel_rfl) rfl h4))
              all_goals first
                | (refine Steps.pure (v := ?_) Keeps.refl rfl (fun f w' hR hV => ⟨?_, ?_⟩) ?_
                   rotate_left
                   · (obtain ⟨h4, _, _, _⟩ := hV; replace h4 : f 4 = _ := h4; exact want_yes (t := 31) rfl (by kernel_rfl) rfl h4)
                   · (obtain ⟨h4, h5, h6, _⟩ := hV; replace h4 : f 4 = _ := h4; replace h5 : f 5 = _ := h5; replace h6 : f 6 = _ := h6; obtain ⟨x0, x1⟩ := HX.out _ hR; go_simp; all_goals (try with_reducible rfl)))
                | (refine Steps.skip rfl (fun f w' hR hV => ?_) ?_
                   · (obtain ⟨h4, _, _, _⟩ := hV; replace h4 : f 4 = _ := h4; first | exact want_no (t := 31) rfl (by kernel_rfl) rfl h4 rfl | exact want_undef (t := 31) rfl (by kernel_rfl) rfl h4))
              all_goals first
                | (refine Steps.pure (v := ?_) Keeps.refl rfl (fun f w' hR hV => ⟨?_, ?_⟩) ?_
                   rotate_left
                   · (obtain ⟨h4, _, _⟩ := hV; replace h4 : f 4 = _ := h4; exact want_yes (t := 31) rfl (by kernel_rfl) rfl h4)
                   · (obtain ⟨h4, h7, _⟩ := hV; replace h4 : f 4 = _ := h4; replace h7 : f 7 = _ := h7; obtain ⟨x0, x1⟩ := HX.out _ hR; go_simp; all_goals (try with_reducible rfl)))
                | (refine Steps.skip rfl (fun f w' hR hV => ?_) ?_
                   · (obtain ⟨h4, _, _⟩ := hV; replace h4 : f 4 = _ := h4; first | exact want_no (t := 31) rfl (by kernel_rfl) rfl h4 rfl | exact want_undef (t := 31) rfl (by kernel_rfl) rfl h4))
              all_goals first
                | (refine Steps.pure (v := ?_) Keeps.refl rfl (fun f w' hR hV => ⟨?_, ?_⟩) ?_
                   rotate_left
                   · (obtain ⟨h4, _, _⟩ := hV; replace h4 : f 4 = _ := h4; exact want_yes (t := 31) rfl (by kernel_rfl) rfl h4)
                   · (obtain ⟨h4, h8, _⟩ := hV; replace h4 : f 4 = _ := h4; replace h8 : f 8 = _ := h8; obtain ⟨x0, x1⟩ := HX.out _ hR; go_simp; all_goals (try with_reducible rfl)))
                | (refine Steps.skip rfl (fun f w' hR hV => ?_) ?_
                   · (obtain ⟨h4, _, _⟩ := hV; replace h4 : f 4 = _ := h4; first | exact want_no (t := 31) rfl (by kernel_rfl) rfl h4 rfl | exact want_undef (t := 31) rfl (by kernel_rfl) rfl h4))
              all_goals first
                | (refine Steps.pure (v := ?_) Keeps.refl rfl (fun f w' hR hV => ⟨?_, ?_⟩) ?_
                   rotate_left
                   · (obtain ⟨h4, _⟩ := hV; replace h4 : f 4 = _ := h4; exact want_yes (t := 31) rfl (by kernel_rfl) rfl h4)
                   · (obtain ⟨h4, _⟩ := hV; replace h4 : f 4 = _ := h4; obtain ⟨x0, x1⟩ := HX.out _ hR; go_simp; all_goals (try with_reducible rfl)))
                | (refine Steps.skip rfl (fun f w' hR hV => ?_) ?_
                   · (obtain ⟨h4, _⟩ := hV; replace h4 : f 4 = _ := h4; first | exact want_no (t := 31) rfl (by kernel_rfl) rfl h4 rfl | exact want_undef (t := 31) rfl (by kernel_rfl) rfl h4))
              all_goals first
                | (refine Steps.pure (v := ?_) Keeps.refl rfl (fun f w' hR hV => ⟨?_, ?_⟩) ?_
                   rotate_left
                   · (obtain ⟨h4, _⟩ := hV; replace h4 : f 4 = _ := h4; exact want_yes (t := 31) rfl (by kernel_rfl) rfl h4)
                   · (obtain ⟨h4, _⟩ := hV; replace h4 : f 4 = _ := h4; obtain ⟨x0, x1⟩ := HX.out _ hR; go_simp; all_goals (try with_reducible rfl)))
                | (refine Steps.skip rfl (fun f w' hR hV => ?_) ?_
                   · (obtain ⟨h4, _⟩ := hV; replace h4 : f 4 = _ := h4; first | exact want_no (t := 31) rfl (by kernel_rfl) rfl h4 rfl | exact want_undef (t := 31) rfl (by kernel_rfl) rfl h4))
              all_goals first
                | (refine Steps.pure (v := ?_) Keeps.refl rfl (fun f w' hR hV => ⟨?_, ?_⟩) ?_
                   rotate_left
                   · (obtain ⟨h4, _, _, _⟩ := hV; replace h4 : f 4 = _ := h4; exact want_yes (t := 31) rfl (by kernel_rfl) rfl h4)
                   · (obtain ⟨h4, h10, h11, _⟩ := hV; replace h4 : f 4 = _ := h4; replace h10 : f 10 = _ := h10; replace h11 : f 11 = _ := h11; obtain ⟨x0, x1⟩ := HX.out _ hR; go_simp; all_goals (try with_reducible rfl)))
                | (refine Steps.skip rfl (fun f w' hR hV => ?_) ?_
                   · (obtain ⟨h4, _, _, _⟩ := hV; replace h4 : f 4 = _ := h4; first | exact want_no (t := 31) rfl (by kernel_rfl) rfl h4 rfl | exact want_undef (t := 31) rfl (by kernel_rfl) rfl h4))
              all_goals first
                | (refine Steps.pure (v := ?_) Keeps.refl rfl (fun f w' hR hV => ⟨?_, ?_⟩) ?_
                   rotate_left
                   · (obtain ⟨h4, _, _⟩ := hV; replace h4 : f 4 = _ := h4; exact want_yes (t := 31) rfl (by kernel_rfl) rfl h4)
                   · (obtain ⟨h4, h12, _⟩ := hV; replace h4 : f 4 = _ := h4; replace h12 : f 12 = _ := h12; obtain ⟨x0, x1⟩ := HX.out _ hR; go_simp; all_goals (try with_reducible rfl)))
                | (refine Steps.skip rfl (fun f w' hR hV => ?_) ?_
                   · (obtain ⟨h4, _, _⟩ := hV; replace h4 : f 4 = _ := h4; first | exact want_no (t := 31) rfl (by kernel_rfl) rfl h4 rfl | exact want_undef (t := 31) rfl (by kernel_rfl) rfl h4))
              all_goals first
                | (refine Steps.pure (v := ?_) Keeps.refl rfl (fun f w' hR hV => ⟨?_, ?_⟩) ?_
                   rotate_left
                   · (obtain ⟨h4, _, _⟩ := hV; replace h4 : f 4 = _ := h4; exact want_yes (t := 31) rfl (by kernel_rfl) rfl h4)
                   · (obtain ⟨h4, h13, _⟩ := hV; replace h4 : f 4 = _ := h4; replace h13 : f 13 = _ := h13; obtain ⟨x0, x1⟩ := HX.out _ hR; go_simp; all_goals (try with_reducible rfl)))
                | (refine Steps.skip rfl (fun f w' hR hV => ?_) ?_
                   · (obtain ⟨h4, _, _⟩ := hV; replace h4 : f 4 = _ := h4; first | exact want_no (t := 31) rfl (by kernel_rfl) rfl h4 rfl | exact want_undef (t := 31) rfl (by kernel_rfl) rfl h4))
              all_goals first
                | (refine Steps.pure (v := ?_) Keeps.refl rfl (fun f w' hR hV => ⟨?_, ?_⟩) ?_
                   rotate_left
                   · (obtain ⟨h4, _, _⟩ := hV; replace h4 : f 4 = _ := h4; exact want_yes (t := 31) rfl (by kernel_rfl) rfl h4)
                   · (obtain ⟨h4, h14, _⟩ := hV; replace h4 : f 4 = _ := h4; replace h14 : f 14 = _ := h14; obtain ⟨x0, x1⟩ := HX.out _ hR; go_simp; all_goals (try with_reducible rfl)))
                | (refine Steps.skip rfl (fun f w' hR hV => ?_) ?_
                   · (obtain ⟨h4, _, _⟩ := hV; replace h4 : f 4 = _ := h4; first | exact want_no (t := 31) rfl (by kernel_rfl) rfl h4 rfl | exact want_undef (t := 31) rfl (by kernel_rfl) rfl h4))
              all_goals first
                | (refine Steps.pure (v := ?_) Keeps.refl rfl (fun f w' hR hV => ⟨?_, ?_⟩) ?_
                   rotate_left
                   · (obtain ⟨h4, _, _, _⟩ := hV; replace h4 : f 4 = _ := h4; exact want_yes (t := 31) rfl (by kernel_rfl) rfl h4)
                   · (obtain ⟨h4, h9, h15, _⟩ := hV; replace h4 : f 4 = _ := h4; replace h9 : f 9 = _ := h9; replace h15 : f 15 = _ := h15; obtain ⟨x0, x1⟩ := HX.out _ hR; go_simp; all_goals (try with_reducible rfl)))
                | (refine Steps.skip rfl (fun f w' hR hV => ?_) ?_
                   · (obtain ⟨h4, _, _, _⟩ := hV; replace h4 : f 4 = _ := h4; first | exact want_no (t := 31) rfl (by kernel_rfl) rfl h4 rfl | exact want_undef (t := 31) rfl (by kernel_rfl) rfl h4))
              all_goals (
                refine Steps.pure (v := ?_) Keeps.refl rfl (fun f w' hR hV => ⟨?_, ?_⟩) ?_
                rotate_left
                · (rfl)
                · (obtain ⟨h4, h16, _⟩ := hV; replace h4 : f 4 = _ := h4; replace h16 : f 16 = _ := h16; obtain ⟨x0, x1⟩ := HX.out _ hR; go_simp; all_goals (try with_reducible rfl)))
              all_goals (refine Steps.done [17] (by kernel_rfl) rfl (fun f wq hR hV => ?_); obtain ⟨h17, _⟩ := hV; replace h17 : f 17 = _ := h17; simp only [h17])
              have HKQ := Lib.hid (HKN.out.trans ((Keeps.refl wd).drew.trans hR))
              have HX2 : Hid (∀ W, Keeps wq.drew W → W.cell? ⟨b3, n * 2, none⟩ = some (.int .i64 q.acc) ∧ W.cell? ⟨b1, i * 14 + 7, none⟩ = some (.int .i64 p.l.acc)) := Lib.hid (fun W hW => ⟨(HQ.out W (HKQ.out.drew.trans hW)).1, (HL.out W (HKQ.out.drew.trans hW)).1⟩)
              clear hR HX
              obtain ⟨wx, rfl⟩ : ∃ wx : World, wx = wq := ⟨_, rfl⟩
              go_wp2_with fail
              refine wp_region_steps (A := ?_) Keeps [some 47, some 48, some 49, some 50, some 51, some 52, some 53, some 54, some 55, some 56, some 57, some 58, some 59, some 60, some 61, some 62, some 63, some 64] [[], [], [1], [0, 2], [3], [4], [4], [4, 5, 6], [4, 7], [4, 8], [4], [4], [4, 10, 11], [4, 12], [4, 13], [4, 14], [4, 9, 15], [4, 16]] 18 (by kernel_rfl) (by kernel_rfl) (by kernel_rfl) (by kernel_rfl) (by kernel_rfl) (by kernel_rfl) Keeps.refl (fun _ _ _ => Keeps.trans) ?_ ?_
              rotate_left
              · intro f; simp only [putL, Act.put, List.setIfInBounds_toArray, List.set_cons_zero, List.set_cons_succ, Nat.zero_add, Nat.reduceAdd]; exact rfl
              refine Steps.pure (v := ?_) Keeps.refl rfl (fun f w' hR hV => ⟨?_, ?_⟩) ?_
              rotate_left
              · (rfl)
              · (clear hV; obtain ⟨x0, x1⟩ := HX2.out _ hR; go_simp; all_goals (try with_reducible rfl))
              refine Steps.pure (v := ?_) Keeps.refl rfl (fun f w' hR hV => ⟨?_, ?_⟩) ?_
              rotate_left
              · (rfl)
              · (clear hV; obtain ⟨x0, x1⟩ := HX2.out _ hR; go_simp; all_goals (try with_reducible rfl))
              refine Steps.pure (v := ?_) Keeps.refl rfl (fun f w' hR hV => ⟨?_, ?_⟩) ?_
              rotate_left
              · (rfl)
              · (obtain ⟨h1, _⟩ := hV; replace h1 : f 1 = _ := h1; obtain ⟨x0, x1⟩ := HX2.out _ hR; go_simp; all_goals (try with_reducible rfl))
              refine Steps.pure (v := ?_) Keeps.refl rfl (fun f w' hR hV => ⟨?_, ?_⟩) ?_
              rotate_left
              · (rfl)
              · (obtain ⟨h0, h2, _⟩ := hV; replace h0 : f 0 = _ := h0; replace h2 : f 2 = _ := h2; obtain ⟨x0, x1⟩ := HX2.out _ hR; go_simp; all_goals (try with_reducible rfl))
              refine Steps.pure (v := ?_) Keeps.refl rfl (fun f w' hR hV => ⟨?_, ?_⟩) ?_
              rotate_left
              · (rfl)
              · (obtain ⟨h3, _⟩ := hV; replace h3 : f 3 = _ := h3; obtain ⟨x0, x1⟩ := HX2.out _ hR; go_simp; all_goals (try with_reducible rfl))
              all_goals first
                | (refine Steps.pure (v := ?_) Keeps.refl rfl (fun f w' hR hV => ⟨?_, ?_⟩) ?_
                   rotate_left
                   · (obtain ⟨h4, _⟩ := hV; replace h4 : f 4 = _ := h4; exact want_yes (t := 51) rfl (by kernel_rfl) rfl h4)
                   · (obtain ⟨h4, _⟩ := hV; replace h4 : f 4 = _ := h4; obtain ⟨x0, x1⟩ := HX2.out _ hR; go_simp; all_goals (try with_reducible rfl)))
                | (refine Steps.skip rfl (fun f w' hR hV => ?_) ?_
                   · (obtain ⟨h4, _⟩ := hV; replace h4 : f 4 = _ := h4; first | exact want_no (t := 51) rfl (by kernel_rfl) rfl h4 rfl | exact want_undef (t := 51) rfl (by kernel_rfl) rfl h4))
              all_goals first
                | (refine Steps.pure (v := ?_) Keeps.refl rfl (fun f w' hR hV => ⟨?_, ?_⟩) ?_
                   rotate_left
                   · (obtain ⟨h4, _⟩ := hV; replace h4 : f 4 = _ := h4; exact want_yes (t := 51) rfl (by kernel_rfl) rfl h4)
                   · (obtain ⟨h4, _⟩ := hV; replace h4 : f 4 = _ := h4; obtain ⟨x0, x1⟩ := HX2.out _ hR; go_simp; all_goals (try with_reducible rfl)))
                | (refine Steps.skip rfl (fun f w' hR hV => ?_) ?_
                   · (obtain ⟨h4, _⟩ := hV; replace h4 : f 4 = _ := h4; first | exact want_no (t := 51) rfl (by kernel_rfl) rfl h4 rfl | exact want_undef (t := 51) rfl (by kernel_rfl) rfl h4))
              all_goals first
                | (refine Steps.pure (v := ?_) Keeps.refl rfl (fun f w' hR hV => ⟨?_, ?_⟩) ?_
                   rotate_left
                   · (obtain ⟨h4, _, _, _⟩ := hV; replace h4 : f 4 = _ := h4; exact want_yes (t := 51) rfl (by kernel_rfl) rfl h4)
                   · (obtain ⟨h4, h5, h6, _⟩ := hV; replace h4 : f 4 = _ := h4; replace h5 : f 5 = _ := h5; replace h6 : f 6 = _ := h6; obtain ⟨x0, x1⟩ := HX2.out _ hR; go_simp; all_goals (try with_reducible rfl)))
                | (refine Steps.skip rfl (fun f w' hR hV => ?_) ?_
                   · (obtain ⟨h4, _, _, _⟩ := hV; replace h4 : f 4 = _ := h4; first | exact want_no (t := 51) rfl (by kernel_rfl) rfl h4 rfl | exact want_undef (t := 51) rfl (by kernel_rfl) rfl h4))
              all_goals first
                | (refine Steps.pure (v := ?_) Keeps.refl rfl (fun f w' hR hV => ⟨?_, ?_⟩) ?_
                   rotate_left
                   · (obtain ⟨h4, _, _⟩ := hV; replace h4 : f 4 = _ := h4; exact want_yes (t := 51) rfl (by kernel_rfl) rfl h4)
                   · (obtain ⟨h4, h7, _⟩ := hV; replace h4 : f 4 = _ := h4; replace h7 : f 7 = _ := h7; obtain ⟨x0, x1⟩ := HX2.out _ hR; go_simp; all_goals (try with_reducible rfl)))
                | (refine Steps.skip rfl (fun f w' hR hV => ?_) ?_
                   · (obtain ⟨h4, _, _⟩ := hV; replace h4 : f 4 = _ := h4; first | exact want_no (t := 51) rfl (by kernel_rfl) rfl h4 rfl | exact want_undef (t := 51) rfl (by kernel_rfl) rfl h4))
              all_goals first
                | (refine Steps.pure (v := ?_) Keeps.refl rfl (fun f w' hR hV => ⟨?_, ?_⟩) ?_
                   rotate_left
                   · (obtain ⟨h4, _, _⟩ := hV; replace h4 : f 4 = _ := h4; exact want_yes (t := 51) rfl (by kernel_rfl) rfl h4)
                   · (obtain ⟨h4, h8, _⟩ := hV; replace h4 : f 4 = _ := h4; replace h8 : f 8 = _ := h8; obtain ⟨x0, x1⟩ := HX2.out _ hR; go_simp; all_goals (try with_reducible rfl)))
                | (refine Steps.skip rfl (fun f w' hR hV => ?_) ?_
                   · (obtain ⟨h4, _, _⟩ := hV; replace h4 : f 4 = _ := h4; first | exact want_no (t := 51) rfl (by kernel_rfl) rfl h4 rfl | exact want_undef (t := 51) rfl (by kernel_rfl) rfl h4))
              all_goals first
                | (refine Steps.pure (v := ?_) Keeps.refl rfl (fun f w' hR hV => ⟨?_, ?_⟩) ?_
                   rotate_left
                   · (obtain ⟨h4, _⟩ := hV; replace h4 : f 4 = _ := h4; exact want_yes (t := 51) rfl (by kernel_rfl) rfl h4)
                   · (obtain ⟨h4, _⟩ := hV; replace h4 : f 4 = _ := h4; obtain ⟨x0, x1⟩ := HX2.out _ hR; go_simp; all_goals (try with_reducible rfl)))
                | (refine Steps.skip rfl (fun f w' hR hV => ?_) ?_
                   · (obtain ⟨h4, _⟩ := hV; replace h4 : f 4 = _ := h4; first | exact want_no (t := 51) rfl (by kernel_rfl) rfl h4 rfl | exact want_undef (t := 51) rfl (by kernel_rfl) rfl h4))
              all_goals first
                | (refine Steps.pure (v := ?_) Keeps.refl rfl (fun f w' hR hV => ⟨?_, ?_⟩) ?_
                   rotate_left
                   · (obtain ⟨h4, _⟩ := hV; replace h4 : f 4 = _ := h4; exact want_yes (t := 51) rfl (by kernel_rfl) rfl h4)
                   · (obtain ⟨h4, _⟩ := hV; replace h4 : f 4 = _ := h4; obtain ⟨x0, x1⟩ := HX2.out _ hR; go_simp; all_goals (try with_reducible rfl)))
                | (refine Steps.skip rfl (fun f w' hR hV => ?_) ?_
                   · (obtain ⟨h4, _⟩ := hV; replace h4 : f 4 = _ := h4; first | exact want_no (t := 51) rfl (by kernel_rfl) rfl h4 rfl | exact want_undef (t := 51) rfl (by kernel_rfl) rfl h4))
              all_goals first
                | (refine Steps.pure (v := ?_) Keeps.refl rfl (fun f w' hR hV => ⟨?_, ?_⟩) ?_
                   rotate_left
                   · (obtain ⟨h4, _, _, _⟩ := hV; replace h4 : f 4 = _ := h4; exact want_yes (t := 51) rfl (by kernel_rfl) rfl h4)
                   · (obtain ⟨h4, h10, h11, _⟩ := hV; replace h4 : f 4 = _ := h4; replace h10 : f 10 = _ := h10; replace h11 : f 11 = _ := h11; obtain ⟨x0, x1⟩ := HX2.out _ hR; go_simp; all_goals (try with_reducible rfl)))
                | (refine Steps.skip rfl (fun f w' hR hV => ?_) ?_
                   · (obtain ⟨h4, _, _, _⟩ := hV; replace h4 : f 4 = _ := h4; first | exact want_no (t := 51) rfl (by kernel_rfl) rfl h4 rfl | exact want_undef (t := 51) rfl (by kernel_rfl) rfl h4))
              all_goals first
                | (refine Steps.pure (v := ?_) Keeps.refl rfl (fun f w' hR hV => ⟨?_, ?_⟩) ?_
                   rotate_left
                   · (obtain ⟨h4, _, _⟩ := hV; replace h4 : f 4 = _ := h4; exact want_yes (t := 51) rfl (by kernel_rfl) rfl h4)
                   · (obtain ⟨h4, h12, _⟩ := hV; replace h4 : f 4 = _ := h4; replace h12 : f 12 = _ := h12; obtain ⟨x0, x1⟩ := HX2.out _ hR; go_simp; all_goals (try with_reducible rfl)))
                | (refine Steps.skip rfl (fun f w' hR hV => ?_) ?_
                   · (obtain ⟨h4, _, _⟩ := hV; replace h4 : f 4 = _ := h4; first | exact want_no (t := 51) rfl (by kernel_rfl) rfl h4 rfl | exact want_undef (t := 51) rfl (by kernel_rfl) rfl h4))
              all_goals first
                | (refine Steps.pure (v := ?_) Keeps.refl rfl (fun f w' hR hV => ⟨?_, ?_⟩) ?_
                   rotate_left
                   · (obtain ⟨h4, _, _⟩ := hV; replace h4 : f 4 = _ := h4; exact want_yes (t := 51) rfl (by kernel_rfl) rfl h4)
                   · (obtain ⟨h4, h13, _⟩ := hV; replace h4 : f 4 = _ := h4; replace h13 : f 13 = _ := h13; obtain ⟨x0, x1⟩ := HX2.out _ hR; go_simp; all_goals (try with_reducible rfl)))
                | (refine Steps.skip rfl (fun f w' hR hV => ?_) ?_
                   · (obtain ⟨h4, _, _⟩ := hV; replace h4 : f 4 = _ := h4; first | exact want_no (t := 51) rfl (by kernel_rfl) rfl h4 rfl | exact want_undef (t := 51) rfl (by kernel_rfl) rfl h4))
              all_goals first
                | (refine Steps.pure (v := ?_) Keeps.refl rfl (fun f w' hR hV => ⟨?_, ?_⟩) ?_
                   rotate_left
                   · (obtain ⟨h4, _, _⟩ := hV; replace h4 : f 4 = _ := h4; exact want_yes (t := 51) rfl (by kernel_rfl) rfl h4)
                   · (obtain ⟨h4, h14, _⟩ := hV; replace h4 : f 4 = _ := h4; replace h14 : f 14 = _ := h14; obtain ⟨x0, x1⟩ := HX2.out _ hR; go_simp; all_goals (try with_reducible rfl)))
                | (refine Steps.skip rfl (fun f w' hR hV => ?_) ?_
                   · (obtain ⟨h4, _, _⟩ := hV; replace h4 : f 4 = _ := h4; first | exact want_no (t := 51) rfl (by kernel_rfl) rfl h4 rfl | exact want_undef (t := 51) rfl (by kernel_rfl) rfl h4))
              all_goals first
                | (refine Steps.pure (v := ?_) Keeps.refl rfl (fun f w' hR hV => ⟨?_, ?_⟩) ?_
                   rotate_left
                   · (obtain ⟨h4, _, _, _⟩ := hV; replace h4 : f 4 = _ := h4; exact want_yes (t := 51) rfl (by kernel_rfl) rfl h4)
                   · (obtain ⟨h4, h9, h15, _⟩ := hV; replace h4 : f 4 = _ := h4; replace h9 : f 9 = _ := h9; replace h15 : f 15 = _ := h15; obtain ⟨x0, x1⟩ := HX2.out _ hR; go_simp; all_goals (try with_reducible rfl)))
                | (refine Steps.skip rfl (fun f w' hR hV => ?_) ?_
                   · (obtain ⟨h4, _, _, _⟩ := hV; replace h4 : f 4 = _ := h4; first | exact want_no (t := 51) rfl (by kernel_rfl) rfl h4 rfl | exact want_undef (t := 51) rfl (by kernel_rfl) rfl h4))
              all_goals (
                refine Steps.pure (v := ?_) Keeps.refl rfl (fun f w' hR hV => ⟨?_, ?_⟩) ?_
                rotate_left
                · (rfl)
                · (obtain ⟨h4, h16, _⟩ := hV; replace h4 : f 4 = _ := h4; replace h16 : f 16 = _ := h16; obtain ⟨x0, x1⟩ := HX2.out _ hR; go_simp; all_goals (try with_reducible rfl)))
              all_goals (refine Steps.done [17] (by kernel_rfl) rfl (fun f wq hR hV => ?_); obtain ⟨h17, _⟩ := hV; replace h17 : f 17 = _ := h17; simp only [h17])
              have HKY := Lib.hid (HKQ.out.trans ((Keeps.refl wx).drew.trans hR))
              obtain ⟨wy, rfl⟩ : ∃ wy : World, wy = wq := ⟨_, rfl⟩
              obtain ⟨y7, y8⟩ := HL.out _ HKY.out
              obtain ⟨x0, x1⟩ := HQ.out _ HKY.out
              have ha := HS3.out.addr (by omega)
              subst ha
              have hoy := own_keepsP HW.out.2 HKY.out
              have f1 := hoy.frozenAt (n * 2 + 1)
              obtain ⟨h5, h6⟩ := hoy.stored (n * 2 + 1) (.int .i64 (wrap64 (q.amount + p.l.amt)))
              have hb3 := (hoy.lt b3 rfl).1
              have HST := Lib.hid (And.intro h5 h6)
              have HBB := Lib.hid hb3
              clear hR HX2 hoy h5 h6 hb3
              go_wp2_with fail
              go_region_law (fail)
              all_goals
                go_wp2_with fail
                go_roundw
                case rel => exact ⟨i + 1, putN g p.l.acc p.l.amt, by omega, by have := putN_len g p.l.acc p.l.amt; omega, by go_num, HG2, Lib.hid ⟨Keeps.drew (show Keeps w1 _ from Below.grown (show Below w1.heap.size w1 wy from HW.out.1.trans HKY.out) HST.out.2 (HW.out.1.trans HKY.out).size (fun j hj => by cases hj; exact HBB.out)), by rw [HP.out, HFL.out, List.length_set, wr64_eq]; exact own_keepsP HST.out.1 (Keeps.refl _).drew⟩⟩
                case measure => simp [intOf]; omega
            · have ee : (q.acc == p.l.acc) = false := by simpa using he
              have HP := Lib.hid (putN_new (x := p.l.amt) hnM HB4.out (fun h => by rw [hq]; omega))
              clear hc he hq
              go_wp2_with fail
              refine wp_region_steps (A := ?_) Keeps [some 27, some 28, some 29, some 30, some 31, some 32, some 33, some 34, some 35, some 36, some 37, some 38, some 39, some 40, some 41, some 42, some 43, some 44] [[], [], [1], [0, 2], [3], [4], [4], [4, 5, 6], [4, 7], [4, 8], [4], [4], [4, 10, 11], [4, 12], [4, 13], [4, 14], [4, 9, 15], [4, 16]] 18 (by kernel_rfl) (by kernel_rfl) (by kernel_rfl) (by kernel_rfl) (by kernel_rfl) (by kernel_rfl) Keeps.refl (fun _ _ _ => Keeps.trans) ?_ ?_
              rotate_left
              · intro f; simp only [putL, Act.put, List.setIfInBounds_toArray, List.set_cons_zero, List.set_cons_succ, Nat.zero_add, Nat.reduceAdd]; exact rfl
              refine Steps.pure (v := ?_) Keeps.refl rfl (fun f w' hR hV => ⟨?_, ?_⟩) ?_
              rotate_left
              · (rfl)
              · (clear hV; obtain ⟨x0, x1⟩ := HX.out _ hR; go_simp; all_goals (try with_reducible rfl))
              refine Steps.pure (v := ?_) Keeps.refl rfl (fun f w' hR hV => ⟨?_, ?_⟩) ?_
              rotate_left
              · (rfl)
              · (clear hV; obtain ⟨x0, x1⟩ := HX.out _ hR; go_simp; all_goals (try with_reducible rfl))
              refine Steps.pure (v := ?_) Keeps.refl rfl (fun f w' hR hV => ⟨?_, ?_⟩) ?_
              rotate_left
              · (rfl)
              · (obtain ⟨h1, _⟩ := hV; replace h1 : f 1 = _ := h1; obtain ⟨x0, x1⟩ := HX.out _ hR; go_simp; all_goals (try with_reducible rfl))
              refine Steps.pure (v := ?_) Keeps.refl rfl (fun f w' hR hV => ⟨?_, ?_⟩) ?_
              rotate_left
              · (rfl)
              · (obtain ⟨h0, h2, _⟩ := hV; replace h0 : f 0 = _ := h0; replace h2 : f 2 = _ := h2; obtain ⟨x0, x1⟩ := HX.out _ hR; go_simp; all_goals (try with_reducible rfl))
              refine Steps.pure (v := ?_) Keeps.refl rfl (fun f w' hR hV => ⟨?_, ?_⟩) ?_
              rotate_left
              · (rfl)
              · (obtain ⟨h3, _⟩ := hV; replace h3 : f 3 = _ := h3; obtain ⟨x0, x1⟩ := HX.out _ hR; go_simp; all_goals (try with_reducible rfl))
              all_goals first
                | (refine Steps.pure (v := ?_) Keeps.refl rfl (fun f w' hR hV => ⟨?_, ?_⟩) ?_
                   rotate_left
                   · (obtain ⟨h4, _⟩ := hV; replace h4 : f 4 = _ := h4; exact want_yes (t := 31) rfl (by kernel_rfl) rfl h4)
                   · (obtain ⟨h4, _⟩ := hV; replace h4 : f 4 = _ := h4; obtain ⟨x0, x1⟩ := HX.out _ hR; go_simp; all_goals (try with_reducible rfl)))
                | (refine Steps.skip rfl (fun f w' hR hV => ?_) ?_
                   · (obtain ⟨h4, _⟩ := hV; replace h4 : f 4 = _ := h4; first | exact want_no (t := 31) rfl (by kernel_rfl) rfl h4 rfl | exact want_undef (t := 31) rfl (by kernel_rfl) rfl h4))
              all_goals first
                | (refine Steps.pure (v := ?_) Keeps.refl rfl (fun f w' hR hV => ⟨?_, ?_⟩) ?_
                   rotate_left
                   · (obtain ⟨h4, _⟩ := hV; replace h4 : f 4 = _ := h4; exact want_yes (t := 31) rfl (by kernel_rfl) rfl h4)
                   · (obtain ⟨h4, _⟩ := hV; replace h4 : f 4 = _ := h4; obtain ⟨x0, x1⟩ := HX.out _ hR; go_simp; all_goals (try with_reducible rfl)))
                | (refine Steps.skip rfl (fun f w' hR hV => ?_) ?_
                   · (obtain ⟨h4, _⟩ := hV; replace h4 : f 4 = _ := h4; first | exact want_no (t := 31) rfl (by kernel_rfl) rfl h4 rfl | exact want_undef (t := 31) rfl (by kernel_rfl) rfl h4))
              all_goals first
                | (refine Steps.pure (v := ?_) Keeps.refl rfl (fun f w' hR hV => ⟨?_, ?_⟩) ?_
                   rotate_left
                   · (obtain ⟨h4, _, _, _⟩ := hV; replace h4 : f 4 = _ := h4; exact want_yes (t := 31) rfl (by kernel_rfl) rfl h4)
                   · (obtain ⟨h4, h5, h6, _⟩ := hV; replace h4 : f 4 = _ := h4; replace h5 : f 5 = _ := h5; replace h6 : f 6 = _ := h6; obtain ⟨x0, x1⟩ := HX.out _ hR; go_simp; all_goals (try with_reducible rfl)))
                | (refine Steps.skip rfl (fun f w' hR hV => ?_) ?_
                   · (obtain ⟨h4, _, _, _⟩ := hV; replace h4 : f 4 = _ := h4; first | exact want_no (t := 31) rfl (by kernel_rfl) rfl h4 rfl | exact want_undef (t := 31) rfl (by kernel_rfl) rfl h4))
              all_goals first
                | (refine Steps.pure (v := ?_) Keeps.refl rfl (fun f w' hR hV => ⟨?_, ?_⟩) ?_
                   rotate_left
                   · (obtain ⟨h4, _, _⟩ := hV; replace h4 : f 4 = _ := h4; exact want_yes (t := 31) rfl (by kernel_rfl) rfl h4)
                   · (obtain ⟨h4, h7, _⟩ := hV; replace h4 : f 4 = _ := h4; replace h7 : f 7 = _ := h7; obtain ⟨x0, x1⟩ := HX.out _ hR; go_simp; all_goals (try with_reducible rfl)))
                | (refine Steps.skip rfl (fun f w' hR hV => ?_) ?_
                   · (obtain ⟨h4, _, _⟩ := hV; replace h4 : f 4 = _ := h4; first | exact want_no (t := 31) rfl (by kernel_rfl) rfl h4 rfl | exact want_undef (t := 31) rfl (by kernel_rfl) rfl h4))
              all_goals first
                | (refine Steps.pure (v := ?_) Keeps.refl rfl (fun f w' hR hV => ⟨?_, ?_⟩) ?_
                   rotate_left
                   · (obtain ⟨h4, _, _⟩ := hV; replace h4 : f 4 = _ := h4; exact want_yes (t := 31) rfl (by kernel_rfl) rfl h4)
                   · (obtain ⟨h4, h8, _⟩ := hV; replace h4 : f 4 = _ := h4; replace h8 : f 8 = _ := h8; obtain ⟨x0, x1⟩ := HX.out _ hR; go_simp; all_goals (try with_reducible rfl)))
                | (refine Steps.skip rfl (fun f w' hR hV => ?_) ?_
                   · (obtain ⟨h4, _, _⟩ := hV; replace h4 : f 4 = _ := h4; first | exact want_no (t := 31) rfl (by kernel_rfl) rfl h4 rfl | exact want_undef (t := 31) rfl (by kernel_rfl) rfl h4))
              all_goals first
                | (refine Steps.pure (v := ?_) Keeps.refl rfl (fun f w' hR hV => ⟨?_, ?_⟩) ?_
                   rotate_left
                   · (obtain ⟨h4, _⟩ := hV; replace h4 : f 4 = _ := h4; exact want_yes (t := 31) rfl (by kernel_rfl) rfl h4)
                   · (obtain ⟨h4, _⟩ := hV; replace h4 : f 4 = _ := h4; obtain ⟨x0, x1⟩ := HX.out _ hR; go_simp; all_goals (try with_reducible rfl)))
                | (refine Steps.skip rfl (fun f w' hR hV => ?_) ?_
                   · (obtain ⟨h4, _⟩ := hV; replace h4 : f 4 = _ := h4; first | exact want_no (t := 31) rfl (by kernel_rfl) rfl h4 rfl | exact want_undef (t := 31) rfl (by kernel_rfl) rfl h4))
              all_goals first
                | (refine Steps.pure (v := ?_) Keeps.refl rfl (fun f w' hR hV => ⟨?_, ?_⟩) ?_
                   rotate_left
                   · (obtain ⟨h4, _⟩ := hV; replace h4 : f 4 = _ := h4; exact want_yes (t := 31) rfl (by kernel_rfl) rfl h4)
                   · (obtain ⟨h4, _⟩ := hV; replace h4 : f 4 = _ := h4; obtain ⟨x0, x1⟩ := HX.out _ hR; go_simp; all_goals (try with_reducible rfl)))
                | (refine Steps.skip rfl (fun f w' hR hV => ?_) ?_
                   · (obtain ⟨h4, _⟩ := hV; replace h4 : f 4 = _ := h4; first | exact want_no (t := 31) rfl (by kernel_rfl) rfl h4 rfl | exact want_undef (t := 31) rfl (by kernel_rfl) rfl h4))
              all_goals first
                | (refine Steps.pure (v := ?_) Keeps.refl rfl (fun f w' hR hV => ⟨?_, ?_⟩) ?_
                   rotate_left
                   · (obtain ⟨h4, _, _, _⟩ := hV; replace h4 : f 4 = _ := h4; exact want_yes (t := 31) rfl (by kernel_rfl) rfl h4)
                   · (obtain ⟨h4, h10, h11, _⟩ := hV; replace h4 : f 4 = _ := h4; replace h10 : f 10 = _ := h10; replace h11 : f 11 = _ := h11; obtain ⟨x0, x1⟩ := HX.out _ hR; go_simp; all_goals (try with_reducible rfl)))
                | (refine Steps.skip rfl (fun f w' hR hV => ?_) ?_
                   · (obtain ⟨h4, _, _, _⟩ := hV; replace h4 : f 4 = _ := h4; first | exact want_no (t := 31) rfl (by kernel_rfl) rfl h4 rfl | exact want_undef (t := 31) rfl (by kernel_rfl) rfl h4))
              all_goals first
                | (refine Steps.pure (v := ?_) Keeps.refl rfl (fun f w' hR hV => ⟨?_, ?_⟩) ?_
                   rotate_left
                   · (obtain ⟨h4, _, _⟩ := hV; replace h4 : f 4 = _ := h4; exact want_yes (t := 31) rfl (by kernel_rfl) rfl h4)
                   · (obtain ⟨h4, h12, _⟩ := hV; replace h4 : f 4 = _ := h4; replace h12 : f 12 = _ := h12; obtain ⟨x0, x1⟩ := HX.out _ hR; go_simp; all_goals (try with_reducible rfl)))
                | (refine Steps.skip rfl (fun f w' hR hV => ?_) ?_
                   · (obtain ⟨h4, _, _⟩ := hV; replace h4 : f 4 = _ := h4; first | exact want_no (t := 31) rfl (by kernel_rfl) rfl h4 rfl | exact want_undef (t := 31) rfl (by kernel_rfl) rfl h4))
              all_goals first
                | (refine Steps.pure (v := ?_) Keeps.refl rfl (fun f w' hR hV => ⟨?_, ?_⟩) ?_
                   rotate_left
                   · (obtain ⟨h4, _, _⟩ := hV; replace h4 : f 4 = _ := h4; exact want_yes (t := 31) rfl (by kernel_rfl) rfl h4)
                   · (obtain ⟨h4, h13, _⟩ := hV; replace h4 : f 4 = _ := h4; replace h13 : f 13 = _ := h13; obtain ⟨x0, x1⟩ := HX.out _ hR; go_simp; all_goals (try with_reducible rfl)))
                | (refine Steps.skip rfl (fun f w' hR hV => ?_) ?_
                   · (obtain ⟨h4, _, _⟩ := hV; replace h4 : f 4 = _ := h4; first | exact want_no (t := 31) rfl (by kernel_rfl) rfl h4 rfl | exact want_undef (t := 31) rfl (by kernel_rfl) rfl h4))
              all_goals first
                | (refine Steps.pure (v := ?_) Keeps.refl rfl (fun f w' hR hV => ⟨?_, ?_⟩) ?_
                   rotate_left
                   · (obtain ⟨h4, _, _⟩ := hV; replace h4 : f 4 = _ := h4; exact want_yes (t := 31) rfl (by kernel_rfl) rfl h4)
                   · (obtain ⟨h4, h14, _⟩ := hV; replace h4 : f 4 = _ := h4; replace h14 : f 14 = _ := h14; obtain ⟨x0, x1⟩ := HX.out _ hR; go_simp; all_goals (try with_reducible rfl)))
                | (refine Steps.skip rfl (fun f w' hR hV => ?_) ?_
                   · (obtain ⟨h4, _, _⟩ := hV; replace h4 : f 4 = _ := h4; first | exact want_no (t := 31) rfl (by kernel_rfl) rfl h4 rfl | exact want_undef (t := 31) rfl (by kernel_rfl) rfl h4))
              all_goals first
                | (refine Steps.pure (v := ?_) Keeps.refl rfl (fun f w' hR hV => ⟨?_, ?_⟩) ?_
                   rotate_left
                   · (obtain ⟨h4, _, _, _⟩ := hV; replace h4 : f 4 = _ := h4; exact want_yes (t := 31) rfl (by kernel_rfl) rfl h4)
                   · (obtain ⟨h4, h9, h15, _⟩ := hV; replace h4 : f 4 = _ := h4; replace h9 : f 9 = _ := h9; replace h15 : f 15 = _ := h15; obtain ⟨x0, x1⟩ := HX.out _ hR; go_simp; all_goals (try with_reducible rfl)))
                | (refine Steps.skip rfl (fun f w' hR hV => ?_) ?_
                   · (obtain ⟨h4, _, _, _⟩ := hV; replace h4 : f 4 = _ := h4; first | exact want_no (t := 31) rfl (by kernel_rfl) rfl h4 rfl | exact want_undef (t := 31) rfl (by kernel_rfl) rfl h4))
              all_goals (
                refine Steps.pure (v := ?_) Keeps.refl rfl (fun f w' hR hV => ⟨?_, ?_⟩) ?_
                rotate_left
                · (rfl)
                · (obtain ⟨h4, h16, _⟩ := hV; replace h4 : f 4 = _ := h4; replace h16 : f 16 = _ := h16; obtain ⟨x0, x1⟩ := HX.out _ hR; go_simp; all_goals (try with_reducible rfl)))
              all_goals (refine Steps.done [17] (by kernel_rfl) rfl (fun f wq hR hV => ?_); obtain ⟨h17, _⟩ := hV; replace h17 : f 17 = _ := h17; simp only [h17])
              have HKQ := Lib.hid (HKN.out.trans ((Keeps.refl wd).drew.trans hR))
              have HX2 : Hid (∀ W, Keeps wq.drew W → W.cell? ⟨b3, n * 2, none⟩ = some (.int .i64 q.acc) ∧ W.cell? ⟨b1, i * 14 + 7, none⟩ = some (.int .i64 p.l.acc)) := Lib.hid (fun W hW => ⟨(HQ.out W (HKQ.out.drew.trans hW)).1, (HL.out W (HKQ.out.drew.trans hW)).1⟩)
              clear hR HX
              obtain ⟨wx, rfl⟩ : ∃ wx : World, wx = wq := ⟨_, rfl⟩
              go_wp2_with fail
              refine wp_region_steps (A := ?_) Keeps [some 47, some 48, some 49, some 50, some 51, some 52, some 53, some 54, some 55, some 56, some 57, some 58, some 59, some 60, some 61, some 62, some 63, some 64] [[], [], [1], [0, 2], [3], [4], [4], [4, 5, 6], [4, 7], [4, 8], [4], [4], [4, 10, 11], [4, 12], [4, 13], [4, 14], [4, 9, 15], [4, 16]] 18 (by kernel_rfl) (by kernel_rfl) (by kernel_rfl) (by kernel_rfl) (by kernel_rfl) (by kernel_rfl) Keeps.refl (fun _ _ _ => Keeps.trans) ?_ ?_
              rotate_left
              · intro f; simp only [putL, Act.put, List.setIfInBounds_toArray, List.set_cons_zero, List.set_cons_succ, Nat.zero_add, Nat.reduceAdd]; exact rfl
              refine Steps.pure (v := ?_) Keeps.refl rfl (fun f w' hR hV => ⟨?_, ?_⟩) ?_
              rotate_left
              · (rfl)
              · (clear hV; obtain ⟨x0, x1⟩ := HX2.out _ hR; go_simp; all_goals (try with_reducible rfl))
              refine Steps.pure (v := ?_) Keeps.refl rfl (fun f w' hR hV => ⟨?_, ?_⟩) ?_
              rotate_left
              · (rfl)
              · (clear hV; obtain ⟨x0, x1⟩ := HX2.out _ hR; go_simp; all_goals (try with_reducible rfl))
              refine Steps.pure (v := ?_) Keeps.refl rfl (fun f w' hR hV => ⟨?_, ?_⟩) ?_
              rotate_left
              · (rfl)
              · (obtain ⟨h1, _⟩ := hV; replace h1 : f 1 = _ := h1; obtain ⟨x0, x1⟩ := HX2.out _ hR; go_simp; all_goals (try with_reducible rfl))
              refine Steps.pure (v := ?_) Keeps.refl rfl (fun f w' hR hV => ⟨?_, ?_⟩) ?_
              rotate_left
              · (rfl)
              · (obtain ⟨h0, h2, _⟩ := hV; replace h0 : f 0 = _ := h0; replace h2 : f 2 = _ := h2; obtain ⟨x0, x1⟩ := HX2.out _ hR; go_simp; all_goals (try with_reducible rfl))
              refine Steps.pure (v := ?_) Keeps.refl rfl (fun f w' hR hV => ⟨?_, ?_⟩) ?_
              rotate_left
              · (rfl)
              · (obtain ⟨h3, _⟩ := hV; replace h3 : f 3 = _ := h3; obtain ⟨x0, x1⟩ := HX2.out _ hR; go_simp; all_goals (try with_reducible rfl))
              all_goals first
                | (refine Steps.pure (v := ?_) Keeps.refl rfl (fun f w' hR hV => ⟨?_, ?_⟩) ?_
                   rotate_left
                   · (obtain ⟨h4, _⟩ := hV; replace h4 : f 4 = _ := h4; exact want_yes (t := 51) rfl (by kernel_rfl) rfl h4)
                   · (obtain ⟨h4, _⟩ := hV; replace h4 : f 4 = _ := h4; obtain ⟨x0, x1⟩ := HX2.out _ hR; go_simp; all_goals (try with_reducible rfl)))
                | (refine Steps.skip rfl (fun f w' hR hV => ?_) ?_
                   · (obtain ⟨h4, _⟩ := hV; replace h4 : f 4 = _ := h4; first | exact want_no (t := 51) rfl (by kernel_rfl) rfl h4 rfl | exact want_undef (t := 51) rfl (by kernel_rfl) rfl h4))
              all_goals first
                | (refine Steps.pure (v := ?_) Keeps.refl rfl (fun f w' hR hV => ⟨?_, ?_⟩) ?_
                   rotate_left
                   · (obtain ⟨h4, _⟩ := hV; replace h4 : f 4 = _ := h4; exact want_yes (t := 51) rfl (by kernel_rfl) rfl h4)
                   · (obtain ⟨h4, _⟩ := hV; replace h4 : f 4 = _ := h4; obtain ⟨x0, x1⟩ := HX2.out _ hR; go_simp; all_goals (try with_reducible rfl)))
                | (refine Steps.skip rfl (fun f w' hR hV => ?_) ?_
                   · (obtain ⟨h4, _⟩ := hV; replace h4 : f 4 = _ := h4; first | exact want_no (t := 51) rfl (by kernel_rfl) rfl h4 rfl | exact want_undef (t := 51) rfl (by kernel_rfl) rfl h4))
              all_goals first
                | (refine Steps.pure (v := ?_) Keeps.refl rfl (fun f w' hR hV => ⟨?_, ?_⟩) ?_
                   rotate_left
                   · (obtain ⟨h4, _, _, _⟩ := hV; replace h4 : f 4 = _ := h4; exact want_yes (t := 51) rfl (by kernel_rfl) rfl h4)
                   · (obtain ⟨h4, h5, h6, _⟩ := hV; replace h4 : f 4 = _ := h4; replace h5 : f 5 = _ := h5; replace h6 : f 6 = _ := h6; obtain ⟨x0, x1⟩ := HX2.out _ hR; go_simp; all_goals (try with_reducible rfl)))
                | (refine Steps.skip rfl (fun f w' hR hV => ?_) ?_
                   · (obtain ⟨h4, _, _, _⟩ := hV; replace h4 : f 4 = _ := h4; first | exact want_no (t := 51) rfl (by kernel_rfl) rfl h4 rfl | exact want_undef (t := 51) rfl (by kernel_rfl) rfl h4))
              all_goals first
                | (refine Steps.pure (v := ?_) Keeps.refl rfl (fun f w' hR hV => ⟨?_, ?_⟩) ?_
                   rotate_left
                   · (obtain ⟨h4, _, _⟩ := hV; replace h4 : f 4 = _ := h4; exact want_yes (t := 51) rfl (by kernel_rfl) rfl h4)
                   · (obtain ⟨h4, h7, _⟩ := hV; replace h4 : f 4 = _ := h4; replace h7 : f 7 = _ := h7; obtain ⟨x0, x1⟩ := HX2.out _ hR; go_simp; all_goals (try with_reducible rfl)))
                | (refine Steps.skip rfl (fun f w' hR hV => ?_) ?_
                   · (obtain ⟨h4, _, _⟩ := hV; replace h4 : f 4 = _ := h4; first | exact want_no (t := 51) rfl (by kernel_rfl) rfl h4 rfl | exact want_undef (t := 51) rfl (by kernel_rfl) rfl h4))
              all_goals first
                | (refine Steps.pure (v := ?_) Keeps.refl rfl (fun f w' hR hV => ⟨?_, ?_⟩) ?_
                   rotate_left
                   · (obtain ⟨h4, _, _⟩ := hV; replace h4 : f 4 = _ := h4; exact want_yes (t := 51) rfl (by kernel_rfl) rfl h4)
                   · (obtain ⟨h4, h8, _⟩ := hV; replace h4 : f 4 = _ := h4; replace h8 : f 8 = _ := h8; obtain ⟨x0, x1⟩ := HX2.out _ hR; go_simp; all_goals (try with_reducible rfl)))
                | (refine Steps.skip rfl (fun f w' hR hV => ?_) ?_
                   · (obtain ⟨h4, _, _⟩ := hV; replace h4 : f 4 = _ := h4; first | exact want_no (t := 51) rfl (by kernel_rfl) rfl h4 rfl | exact want_undef (t := 51) rfl (by kernel_rfl) rfl h4))
              all_goals first
                | (refine Steps.pure (v := ?_) Keeps.refl rfl (fun f w' hR hV => ⟨?_, ?_⟩) ?_
                   rotate_left
                   · (obtain ⟨h4, _⟩ := hV; replace h4 : f 4 = _ := h4; exact want_yes (t := 51) rfl (by kernel_rfl) rfl h4)
                   · (obtain ⟨h4, _⟩ := hV; replace h4 : f 4 = _ := h4; obtain ⟨x0, x1⟩ := HX2.out _ hR; go_simp; all_goals (try with_reducible rfl)))
                | (refine Steps.skip rfl (fun f w' hR hV => ?_) ?_
                   · (obtain ⟨h4, _⟩ := hV; replace h4 : f 4 = _ := h4; first | exact want_no (t := 51) rfl (by kernel_rfl) rfl h4 rfl | exact want_undef (t := 51) rfl (by kernel_rfl) rfl h4))
              all_goals first
                | (refine Steps.pure (v := ?_) Keeps.refl rfl (fun f w' hR hV => ⟨?_, ?_⟩) ?_
                   rotate_left
                   · (obtain ⟨h4, _⟩ := hV; replace h4 : f 4 = _ := h4; exact want_yes (t := 51) rfl (by kernel_rfl) rfl h4)
                   · (obtain ⟨h4, _⟩ := hV; replace h4 : f 4 = _ := h4; obtain ⟨x0, x1⟩ := HX2.out _ hR; go_simp; all_goals (try with_reducible rfl)))
                | (refine Steps.skip rfl (fun f w' hR hV => ?_) ?_
                   · (obtain ⟨h4, _⟩ := hV; replace h4 : f 4 = _ := h4; first | exact want_no (t := 51) rfl (by kernel_rfl) rfl h4 rfl | exact want_undef (t := 51) rfl (by kernel_rfl) rfl h4))
              all_goals first
                | (refine Steps.pure (v := ?_) Keeps.refl rfl (fun f w' hR hV => ⟨?_, ?_⟩) ?_
                   rotate_left
                   · (obtain ⟨h4, _, _, _⟩ := hV; replace h4 : f 4 = _ := h4; exact want_yes (t := 51) rfl (by kernel_rfl) rfl h4)
                   · (obtain ⟨h4, h10, h11, _⟩ := hV; replace h4 : f 4 = _ := h4; replace h10 : f 10 = _ := h10; replace h11 : f 11 = _ := h11; obtain ⟨x0, x1⟩ := HX2.out _ hR; go_simp; all_goals (try with_reducible rfl)))
                | (refine Steps.skip rfl (fun f w' hR hV => ?_) ?_
                   · (obtain ⟨h4, _, _, _⟩ := hV; replace h4 : f 4 = _ := h4; first | exact want_no (t := 51) rfl (by kernel_rfl) rfl h4 rfl | exact want_undef (t := 51) rfl (by kernel_rfl) rfl h4))
              all_goals first
                | (refine Steps.pure (v := ?_) Keeps.refl rfl (fun f w' hR hV => ⟨?_, ?_⟩) ?_
                   rotate_left
                   · (obtain ⟨h4, _, _⟩ := hV; replace h4 : f 4 = _ := h4; exact want_yes (t := 51) rfl (by kernel_rfl) rfl h4)
                   · (obtain ⟨h4, h12, _⟩ := hV; replace h4 : f 4 = _ := h4; replace h12 : f 12 = _ := h12; obtain ⟨x0, x1⟩ := HX2.out _ hR; go_simp; all_goals (try with_reducible rfl)))
                | (refine Steps.skip rfl (fun f w' hR hV => ?_) ?_
                   · (obtain ⟨h4, _, _⟩ := hV; replace h4 : f 4 = _ := h4; first | exact want_no (t := 51) rfl (by kernel_rfl) rfl h4 rfl | exact want_undef (t := 51) rfl (by kernel_rfl) rfl h4))
              all_goals first
                | (refine Steps.pure (v := ?_) Keeps.refl rfl (fun f w' hR hV => ⟨?_, ?_⟩) ?_
                   rotate_left
                   · (obtain ⟨h4, _, _⟩ := hV; replace h4 : f 4 = _ := h4; exact want_yes (t := 51) rfl (by kernel_rfl) rfl h4)
                   · (obtain ⟨h4, h13, _⟩ := hV; replace h4 : f 4 = _ := h4; replace h13 : f 13 = _ := h13; obtain ⟨x0, x1⟩ := HX2.out _ hR; go_simp; all_goals (try with_reducible rfl)))
                | (refine Steps.skip rfl (fun f w' hR hV => ?_) ?_
                   · (obtain ⟨h4, _, _⟩ := hV; replace h4 : f 4 = _ := h4; first | exact want_no (t := 51) rfl (by kernel_rfl) rfl h4 rfl | exact want_undef (t := 51) rfl (by kernel_rfl) rfl h4))
              all_goals first
                | (refine Steps.pure (v := ?_) Keeps.refl rfl (fun f w' hR hV => ⟨?_, ?_⟩) ?_
                   rotate_left
                   · (obtain ⟨h4, _, _⟩ := hV; replace h4 : f 4 = _ := h4; exact want_yes (t := 51) rfl (by kernel_rfl) rfl h4)
                   · (obtain ⟨h4, h14, _⟩ := hV; replace h4 : f 4 = _ := h4; replace h14 : f 14 = _ := h14; obtain ⟨x0, x1⟩ := HX2.out _ hR; go_simp; all_goals (try with_reducible rfl)))
                | (refine Steps.skip rfl (fun f w' hR hV => ?_) ?_
                   · (obtain ⟨h4, _, _⟩ := hV; replace h4 : f 4 = _ := h4; first | exact want_no (t := 51) rfl (by kernel_rfl) rfl h4 rfl | exact want_undef (t := 51) rfl (by kernel_rfl) rfl h4))
              all_goals first
                | (refine Steps.pure (v := ?_) Keeps.refl rfl (fun f w' hR hV => ⟨?_, ?_⟩) ?_
                   rotate_left
                   · (obtain ⟨h4, _, _, _⟩ := hV; replace h4 : f 4 = _ := h4; exact want_yes (t := 51) rfl (by kernel_rfl) rfl h4)
                   · (obtain ⟨h4, h9, h15, _⟩ := hV; replace h4 : f 4 = _ := h4; replace h9 : f 9 = _ := h9; replace h15 : f 15 = _ := h15; obtain ⟨x0, x1⟩ := HX2.out _ hR; go_simp; all_goals (try with_reducible rfl)))
                | (refine Steps.skip rfl (fun f w' hR hV => ?_) ?_
                   · (obtain ⟨h4, _, _, _⟩ := hV; replace h4 : f 4 = _ := h4; first | exact want_no (t := 51) rfl (by kernel_rfl) rfl h4 rfl | exact want_undef (t := 51) rfl (by kernel_rfl) rfl h4))
              all_goals (
                refine Steps.pure (v := ?_) Keeps.refl rfl (fun f w' hR hV => ⟨?_, ?_⟩) ?_
                rotate_left
                · (rfl)
                · (obtain ⟨h4, h16, _⟩ := hV; replace h4 : f 4 = _ := h4; replace h16 : f 16 = _ := h16; obtain ⟨x0, x1⟩ := HX2.out _ hR; go_simp; all_goals (try with_reducible rfl)))
              all_goals (refine Steps.done [17] (by kernel_rfl) rfl (fun f wq hR hV => ?_); obtain ⟨h17, _⟩ := hV; replace h17 : f 17 = _ := h17; simp only [h17])
              have HKY := Lib.hid (HKQ.out.trans ((Keeps.refl wx).drew.trans hR))
              obtain ⟨wy, rfl⟩ : ∃ wy : World, wy = wq := ⟨_, rfl⟩
              obtain ⟨y7, y8⟩ := HL.out _ HKY.out
              clear hR HX2
              go_upto_region 11 with (fail)
              go_cut [13] from 79 to 91 (fun v13 wx => v13 = .pointer (some ⟨wy.heap.size, 0, none⟩) ∧ Hid (Keeps wy wx ∧ wx.cell? ⟨wy.heap.size, 0, none⟩ = some (.int .i64 p.l.acc) ∧ wx.cell? ⟨wy.heap.size, 1, none⟩ = some (.int .i64 p.l.amt)))
              case first =>
                go_region_held3 (fun w' => w'.cell? ⟨b1, i * 14 + 7, none⟩ = some (.int .i64 p.l.acc) ∧ w'.cell? ⟨b1, i * 14 + 8, none⟩ = some (.int .i64 p.l.amt)) (first | go_keep | (exact ⟨y7, y8⟩)) (fail)
                go_wp2_with fail
                go_meet
                exact ⟨rfl, Lib.hid ⟨((Keeps.refl wy).alloc _).drew, by go_simp, by go_simp⟩⟩
              case rest =>
                obtain ⟨rfl, HC⟩ := hcut
                obtain ⟨wz, rfl⟩ : ∃ wz : World, wz = wc := ⟨_, rfl⟩
                obtain ⟨hkz, x0, x1⟩ := HC.out
                have HKZ : Hid (Keeps wa wz) := Lib.hid (HKY.out.trans hkz)
                have hbz := World.block_lt_of_cell? _ _ x0
                simp only at hbz
                have HPZ : Hid (∀ W, Keeps wz W → W.cell? ⟨wy.heap.size, 0, none⟩ = some (.int .i64 p.l.acc) ∧ W.cell? ⟨wy.heap.size, 1, none⟩ = some (.int .i64 p.l.amt)) := Lib.hid (fun W hW => ⟨hW.cell x0, hW.cell x1⟩)
                have HSZ : Hid (Sl wz 2 ao3 g.length cap3 b3 0 (g.flatMap Bal.cells)) := Lib.hid (HS3.out.keeps HKZ.out)
                obtain ⟨ao5, hcf, hs5⟩ := Sl.cutFrom HSZ.out Try.underlying42 Try.sizeOf52 n hnM
                have hct := run_cutTo Try.underlying42 Try.sizeOf52 ao3 g.length cap3 n (by omega) hcap3
                have HS5 := Lib.hid hs5
                have HS1 := Lib.hid (Sl.take HSZ.out n hnM)
                have HO1 : Hid (∀ u ∈ (g.flatMap Bal.cells).take (n * 2), u.oneCell' = true) := Lib.hid (fun u hu => ones_bal g u (List.mem_of_mem_take hu))
                have HO2 : Hid (∀ u ∈ (g.flatMap Bal.cells).drop (n * 2), u.oneCell' = true) := Lib.hid (fun u hu => ones_bal g u (List.mem_of_mem_drop hu))
                clear hs5 x0 x1 hkz HC
                go_wp2_with fail
                go_region_held3 (fun w' => w'.cell? ⟨wy.heap.size, 0, none⟩ = some (.int .i64 p.l.acc) ∧ w'.cell? ⟨wy.heap.size, 1, none⟩ = some (.int .i64 p.l.amt))
                  (first | exact (HPZ.out _ hk3) | exact (HPZ.out _ hk2) | exact (HPZ.out _ hk1) | exact (HPZ.out _ (hk1.alloc _)) | exact (HPZ.out _ (Keeps.refl wz).drew) | exact (HPZ.out _ ((Keeps.refl wz).alloc _).drew) | exact (HPZ.out _ (((Keeps.refl wz).alloc _).alloc _).drew))
                  (first | (guard_hyp hown2 : _; refine step_all_raw elemBalN rfl (.tmp 99) (.tmp 102) rfl v2 (n + 1) _ (by rfl) wz.heap.size hown2 hz2 ao5 (g.length - n) (cap3 - n) b3 (0 + n * 2) ((g.flatMap Bal.cells).drop (n * 2)) (by rfl) (HS5.out.keeps hk2) HO2.out (by omega) (by omega) ?_; intro v3 w3' hown3 hgrow3 hat3; have hk3 : Keeps wz w3' := Below.grown hk2 hgrow3 hk2.size (fun j hj => (hown2.lt j hj).1)) | (guard_hyp hown1 : _; refine step_all_raw elemBalN rfl (.tmp 96) (.tmp 98) rfl v1 n _ (by rfl) wz.heap.size (by first | exact hown1 | exact hown1.alloc _) (by first | omega | (simp; omega)) _ 1 1 _ 0 [.int .i64 p.l.acc, .int .i64 p.l.amt] (by rfl) (by exact Sl.block rfl (fun j u hj => by first | exact cell_newx (by simp) hj | (exact hgrow1.cell (cell_newx (by simp) hj) (by simp [Act.eval, Value.ownBlock])) | (exact hgrow1.cell (Keeps.cell ((Keeps.refl _).alloc _) (cell_newx (by simp) hj)) (by simp [Act.eval, Value.ownBlock])))) (by intro u hu; simp at hu; rcases hu with rfl | rfl <;> rfl) (by omega) (by omega) ?_; intro v2 w2' hown2 hgrow2 hat2; have hk2 : Keeps wz w2' := (by first | exact Below.grown hk1 hgrow2 hk1.size (fun j hj => (hown1.lt j hj).1) | exact Below.grown (Keeps.alloc hk1 _) hgrow2 (by simp; omega) (fun j hj => (hown1.lt j hj).1)); have hz2 := hk2.size) | (refine step_all_raw elemBalN rfl (.tmp 92) (.tmp 95) rfl _ 0 [] (by rfl) wz.heap.size (by first | exact own_emptyx (by simp) (by simp) | exact (own_emptyx (by simp) (by simp)).alloc _) (by first | (simp; done) | (simp; omega)) ao3 n cap3 b3 0 ((g.flatMap Bal.cells).take (n * 2)) (by rfl) (by first | exact HS1.out.keeps ((Keeps.refl wz).alloc _).drew | exact HS1.out.keeps (((Keeps.refl wz).alloc _).alloc _).drew) HO1.out (by omega) (by omega) ?_; intro v1 w1' hown1 hgrow1 hat1; rw [Nat.zero_add, List.nil_append] at hown1; have hk1 : Keeps wz w1' := (by first | exact Below.grown ((Keeps.refl wz).alloc _).drew hgrow1 (by first | (simp; done) | (simp; omega)) (fun j hj => by simp [Act.eval, Value.ownBlock] at hj; omega) | exact Below.grown (((Keeps.refl wz).alloc _).alloc _).drew hgrow1 (by first | (simp; done) | (simp; omega)) (fun j hj => by simp [Act.eval, Value.ownBlock] at hj; omega)); have hz1 := hk1.size))
                all_goals
                  have HR3 : Hid (w3'.ownsRow w1.heap.size 52 2 v3 (putN g p.l.acc p.l.amt).length ((putN g p.l.acc p.l.amt).flatMap Bal.cells)) := Lib.hid (by
                    have h := own_baseP hown3 (Nat.le_trans HW.out.1.size HKZ.out.size)
                    rw [show n + 1 + (g.length - n) = g.length + 1 from by omega] at h
                    have e1 : (putN g p.l.acc p.l.amt).length = g.length + 1 := by rw [HP.out, List.length_append, List.length_append, List.length_take, List.length_drop, List.length_singleton]; omega
                    have e2 : (putN g p.l.acc p.l.amt).flatMap Bal.cells = (g.flatMap Bal.cells).take (n * 2) ++ [.int .i64 p.l.acc, .int .i64 p.l.amt] ++ (g.flatMap Bal.cells).drop (n * 2) := by
                      rw [HP.out, List.flatMap_append, List.flatMap_append, flat_takeP Bal.len, flat_dropP Bal.len]; rfl
                    rw [e1, e2]; exact h)
                  have HKK := Lib.hid hk3
                  clear hown1 hgrow1 hat1 hk1 hz1 hown2 hgrow2 hat2 hk2 hz2 hown3 hgrow3 hat3 hk3
                  go_wp2_with fail
                  go_roundw
                  case rel => exact ⟨i + 1, putN g p.l.acc p.l.amt, by omega, by have := putN_len g p.l.acc p.l.amt; omega, by go_num, HG2, Lib.hid ⟨HW.out.1.trans (HKZ.out.trans HKK.out), HR3.out⟩⟩
                  case measure => simp [intOf]; omega
        · have HP := Lib.hid (putN_new (a := p.l.acc) (x := p.l.amt) hnM HB4.out (fun h => absurd h hlt2))
          have hdl : decide ((n : Int) < (g.length : Int)) = false := by simp; omega
          go_wp2_with fail
          refine wp_region_steps (A := ?_) Keeps [some 27, some 28, some 29, some 30, some 31, some 32, some 33, some 34, some 35, some 36, some 37, some 38, some 39, some 40, some 41, some 42, some 43, some 44] [[], [], [1], [0, 2], [3], [4], [4], [4, 5, 6], [4, 7], [4, 8], [4], [4], [4, 10, 11], [4, 12], [4, 13], [4, 14], [4, 9, 15], [4, 16]] 18 (by kernel_rfl) (by kernel_rfl) (by kernel_rfl) (by kernel_rfl) (by kernel_rfl) (by kernel_rfl) Keeps.refl (fun _ _ _ => Keeps.trans) ?_ ?_
          rotate_left
          · intro f; simp only [putL, Act.put, List.setIfInBounds_toArray, List.set_cons_zero, List.set_cons_succ, Nat.zero_add, Nat.reduceAdd]; exact rfl
          refine Steps.pure (v := ?_) Keeps.refl rfl (fun f w' hR hV => ⟨?_, ?_⟩) ?_
          rotate_left
          · (rfl)
          · (clear hV; go_simp; all_goals (try with_reducible rfl))
          refine Steps.pure (v := ?_) Keeps.refl rfl (fun f w' hR hV => ⟨?_, ?_⟩) ?_
          rotate_left
          · (rfl)
          · (clear hV; go_simp; all_goals (try with_reducible rfl))
          refine Steps.pure (v := ?_) Keeps.refl rfl (fun f w' hR hV => ⟨?_, ?_⟩) ?_
          rotate_left
          · (rfl)
          · (obtain ⟨h1, _⟩ := hV; replace h1 : f 1 = _ := h1; go_simp; all_goals (try with_reducible rfl))
          refine Steps.pure (v := ?_) Keeps.refl rfl (fun f w' hR hV => ⟨?_, ?_⟩) ?_
          rotate_left
          · (rfl)
          · (obtain ⟨h0, h2, _⟩ := hV; replace h0 : f 0 = _ := h0; replace h2 : f 2 = _ := h2; go_simp; all_goals (try with_reducible rfl))
          refine Steps.pure (v := ?_) Keeps.refl rfl (fun f w' hR hV => ⟨?_, ?_⟩) ?_
          rotate_left
          · (rfl)
          · (obtain ⟨h3, _⟩ := hV; replace h3 : f 3 = _ := h3; go_simp; all_goals (try with_reducible rfl))
          all_goals first
            | (refine Steps.pure (v := ?_) Keeps.refl rfl (fun f w' hR hV => ⟨?_, ?_⟩) ?_
               rotate_left
               · (obtain ⟨h4, _⟩ := hV; replace h4 : f 4 = _ := h4; exact want_yes (t := 31) rfl (by kernel_rfl) rfl h4)
               · (obtain ⟨h4, _⟩ := hV; replace h4 : f 4 = _ := h4; go_simp; all_goals (try with_reducible rfl)))
            | (refine Steps.skip rfl (fun f w' hR hV => ?_) ?_
               · (obtain ⟨h4, _⟩ := hV; replace h4 : f 4 = _ := h4; first | exact want_no (t := 31) rfl (by kernel_rfl) rfl h4 rfl | exact want_undef (t := 31) rfl (by kernel_rfl) rfl h4))
          all_goals first
            | (refine Steps.pure (v := ?_) Keeps.refl rfl (fun f w' hR hV => ⟨?_, ?_⟩) ?_
               rotate_left
               · (obtain ⟨h4, _⟩ := hV; replace h4 : f 4 = _ := h4; exact want_yes (t := 31) rfl (by kernel_rfl) rfl h4)
               · (obtain ⟨h4, _⟩ := hV; replace h4 : f 4 = _ := h4; go_simp; all_goals (try with_reducible rfl)))
            | (refine Steps.skip rfl (fun f w' hR hV => ?_) ?_
               · (obtain ⟨h4, _⟩ := hV; replace h4 : f 4 = _ := h4; first | exact want_no (t := 31) rfl (by kernel_rfl) rfl h4 rfl | exact want_undef (t := 31) rfl (by kernel_rfl) rfl h4))
          all_goals first
            | (refine Steps.pure (v := ?_) Keeps.refl rfl (fun f w' hR hV => ⟨?_, ?_⟩) ?_
               rotate_left
               · (obtain ⟨h4, _, _, _⟩ := hV; replace h4 : f 4 = _ := h4; exact want_yes (t := 31) rfl (by kernel_rfl) rfl h4)
               · (obtain ⟨h4, h5, h6, _⟩ := hV; replace h4 : f 4 = _ := h4; replace h5 : f 5 = _ := h5; replace h6 : f 6 = _ := h6; go_simp; all_goals (try with_reducible rfl)))
            | (refine Steps.skip rfl (fun f w' hR hV => ?_) ?_
               · (obtain ⟨h4, _, _, _⟩ := hV; replace h4 : f 4 = _ := h4; first | exact want_no (t := 31) rfl (by kernel_rfl) rfl h4 rfl | exact want_undef (t := 31) rfl (by kernel_rfl) rfl h4))
          all_goals first
            | (refine Steps.pure (v := ?_) Keeps.refl rfl (fun f w' hR hV => ⟨?_, ?_⟩) ?_
               rotate_left
               · (obtain ⟨h4, _, _⟩ := hV; replace h4 : f 4 = _ := h4; exact want_yes (t := 31) rfl (by kernel_rfl) rfl h4)
               · (obtain ⟨h4, h7, _⟩ := hV; replace h4 : f 4 = _ := h4; replace h7 : f 7 = _ := h7; go_simp; all_goals (try with_reducible rfl)))
            | (refine Steps.skip rfl (fun f w' hR hV => ?_) ?_
               · (obtain ⟨h4, _, _⟩ := hV; replace h4 : f 4 = _ := h4; first | exact want_no (t := 31) rfl (by kernel_rfl) rfl h4 rfl | exact want_undef (t := 31) rfl (by kernel_rfl) rfl h4))
          all_goals first
            | (refine Steps.pure (v := ?_) Keeps.refl rfl (fun f w' hR hV => ⟨?_, ?_⟩) ?_
               rotate_left
               · (obtain ⟨h4, _, _⟩ := hV; replace h4 : f 4 = _ := h4; exact want_yes (t := 31) rfl (by kernel_rfl) rfl h4)
               · (obtain ⟨h4, h8, _⟩ := hV; replace h4 : f 4 = _ := h4; replace h8 : f 8 = _ := h8; go_simp; all_goals (try with_reducible rfl)))
            | (refine Steps.skip rfl (fun f w' hR hV => ?_) ?_
               · (obtain ⟨h4, _, _⟩ := hV; replace h4 : f 4 = _ := h4; first | exact want_no (t := 31) rfl (by kernel_rfl) rfl h4 rfl | exact want_undef (t := 31) rfl (by kernel_rfl) rfl h4))
          all_goals first
            | (refine Steps.pure (v := ?_) Keeps.refl rfl (fun f w' hR hV => ⟨?_, ?_⟩) ?_
               rotate_left
               · (obtain ⟨h4, _⟩ := hV; replace h4 : f 4 = _ := h4; exact want_yes (t := 31) rfl (by kernel_rfl) rfl h4)
               · (obtain ⟨h4, _⟩ := hV; replace h4 : f 4 = _ := h4; go_simp; all_goals (try with_reducible rfl)))
            | (refine Steps.skip rfl (fun f w' hR hV => ?_) ?_
               · (obtain ⟨h4, _⟩ := hV; replace h4 : f 4 = _ := h4; first | exact want_no (t := 31) rfl (by kernel_rfl) rfl h4 rfl | exact want_undef (t := 31) rfl (by kernel_rfl) rfl h4))
          all_goals first
            | (refine Steps.pure (v := ?_) Keeps.refl rfl (fun f w' hR hV => ⟨?_, ?_⟩) ?_
               rotate_left
               · (obtain ⟨h4, _⟩ := hV; replace h4 : f 4 = _ := h4; exact want_yes (t := 31) rfl (by kernel_rfl) rfl h4)
               · (obtain ⟨h4, _⟩ := hV; replace h4 : f 4 = _ := h4; go_simp; all_goals (try with_reducible rfl)))
            | (refine Steps.skip rfl (fun f w' hR hV => ?_) ?_
               · (obtain ⟨h4, _⟩ := hV; replace h4 : f 4 = _ := h4; first | exact want_no (t := 31) rfl (by kernel_rfl) rfl h4 rfl | exact want_undef (t := 31) rfl (by kernel_rfl) rfl h4))
          all_goals first
            | (refine Steps.pure (v := ?_) Keeps.refl rfl (fun f w' hR hV => ⟨?_, ?_⟩) ?_
               rotate_left
               · (obtain ⟨h4, _, _, _⟩ := hV; replace h4 : f 4 = _ := h4; exact want_yes (t := 31) rfl (by kernel_rfl) rfl h4)
               · (obtain ⟨h4, h10, h11, _⟩ := hV; replace h4 : f 4 = _ := h4; replace h10 : f 10 = _ := h10; replace h11 : f 11 = _ := h11; go_simp; all_goals (try with_reducible rfl)))
            | (refine Steps.skip rfl (fun f w' hR hV => ?_) ?_
               · (obtain ⟨h4, _, _, _⟩ := hV; replace h4 : f 4 = _ := h4; first | exact want_no (t := 31) rfl (by kernel_rfl) rfl h4 rfl | exact want_undef (t := 31) rfl (by kernel_rfl) rfl h4))
          all_goals first
            | (refine Steps.pure (v := ?_) Keeps.refl rfl (fun f w' hR hV => ⟨?_, ?_⟩) ?_
               rotate_left
               · (obtain ⟨h4, _, _⟩ := hV; replace h4 : f 4 = _ := h4; exact want_yes (t := 31) rfl (by kernel_rfl) rfl h4)
               · (obtain ⟨h4, h12, _⟩ := hV; replace h4 : f 4 = _ := h4; replace h12 : f 12 = _ := h12; go_simp; all_goals (try with_reducible rfl)))
            | (refine Steps.skip rfl (fun f w' hR hV => ?_) ?_
               · (obtain ⟨h4, _, _⟩ := hV; replace h4 : f 4 = _ := h4; first | exact want_no (t := 31) rfl (by kernel_rfl) rfl h4 rfl | exact want_undef (t := 31) rfl (by kernel_rfl) rfl h4))
          all_goals first
            | (refine Steps.pure (v := ?_) Keeps.refl rfl (fun f w' hR hV => ⟨?_, ?_⟩) ?_
               rotate_left
               · (obtain ⟨h4, _, _⟩ := hV; replace h4 : f 4 = _ := h4; exact want_yes (t := 31) rfl (by kernel_rfl) rfl h4)
               · (obtain ⟨h4, h13, _⟩ := hV; replace h4 : f 4 = _ := h4; replace h13 : f 13 = _ := h13; go_simp; all_goals (try with_reducible rfl)))
            | (refine Steps.skip rfl (fun f w' hR hV => ?_) ?_
               · (obtain ⟨h4, _, _⟩ := hV; replace h4 : f 4 = _ := h4; first | exact want_no (t := 31) rfl (by kernel_rfl) rfl h4 rfl | exact want_undef (t := 31) rfl (by kernel_rfl) rfl h4))
          all_goals first
            | (refine Steps.pure (v := ?_) Keeps.refl rfl (fun f w' hR hV => ⟨?_, ?_⟩) ?_
               rotate_left
               · (obtain ⟨h4, _, _⟩ := hV; replace h4 : f 4 = _ := h4; exact want_yes (t := 31) rfl (by kernel_rfl) rfl h4)
               · (obtain ⟨h4, h14, _⟩ := hV; replace h4 : f 4 = _ := h4; replace h14 : f 14 = _ := h14; go_simp; all_goals (try with_reducible rfl)))
            | (refine Steps.skip rfl (fun f w' hR hV => ?_) ?_
               · (obtain ⟨h4, _, _⟩ := hV; replace h4 : f 4 = _ := h4; first | exact want_no (t := 31) rfl (by kernel_rfl) rfl h4 rfl | exact want_undef (t := 31) rfl (by kernel_rfl) rfl h4))
          all_goals first
            | (refine Steps.pure (v := ?_) Keeps.refl rfl (fun f w' hR hV => ⟨?_, ?_⟩) ?_
               rotate_left
               · (obtain ⟨h4, _, _, _⟩ := hV; replace h4 : f 4 = _ := h4; exact want_yes (t := 31) rfl (by kernel_rfl) rfl h4)
               · (obtain ⟨h4, h9, h15, _⟩ := hV; replace h4 : f 4 = _ := h4; replace h9 : f 9 = _ := h9; replace h15 : f 15 = _ := h15; go_simp; all_goals (try with_reducible rfl)))
            | (refine Steps.skip rfl (fun f w' hR hV => ?_) ?_
               · (obtain ⟨h4, _, _, _⟩ := hV; replace h4 : f 4 = _ := h4; first | exact want_no (t := 31) rfl (by kernel_rfl) rfl h4 rfl | exact want_undef (t := 31) rfl (by kernel_rfl) rfl h4))
          all_goals (
            refine Steps.pure (v := ?_) Keeps.refl rfl (fun f w' hR hV => ⟨?_, ?_⟩) ?_
            rotate_left
            · (rfl)
            · (obtain ⟨h4, h16, _⟩ := hV; replace h4 : f 4 = _ := h4; replace h16 : f 16 = _ := h16; go_simp; all_goals (try with_reducible rfl)))
          all_goals (refine Steps.done [17] (by kernel_rfl) rfl (fun f wq hR hV => ?_); obtain ⟨h17, _⟩ := hV; replace h17 : f 17 = _ := h17; simp only [h17])
          have HKQ := Lib.hid (HKN.out.trans ((Keeps.refl wd).drew.trans hR))
          clear hR
          obtain ⟨wx, rfl⟩ : ∃ wx : World, wx = wq := ⟨_, rfl⟩
          go_wp2_with fail
          refine wp_region_steps (A := ?_) Keeps [some 47, some 48, some 49, some 50, some 51, some 52, some 53, some 54, some 55, some 56, some 57, some 58, some 59, some 60, some 61, some 62, some 63, some 64] [[], [], [1], [0, 2], [3], [4], [4], [4, 5, 6], [4, 7], [4, 8], [4], [4], [4, 10, 11], [4, 12], [4, 13], [4, 14], [4, 9, 15], [4, 16]] 18 (by kernel_rfl) (by kernel_rfl) (by kernel_rfl) (by kernel_rfl) (by kernel_rfl) (by kernel_rfl) Keeps.refl (fun _ _ _ => Keeps.trans) ?_ ?_
          rotate_left
          · intro f; simp only [putL, Act.put, List.setIfInBounds_toArray, List.set_cons_zero, List.set_cons_succ, Nat.zero_add, Nat.reduceAdd]; exact rfl
          refine Steps.pure (v := ?_) Keeps.refl rfl (fun f w' hR hV => ⟨?_, ?_⟩) ?_
          rotate_left
          · (rfl)
          · (clear hV; go_simp; all_goals (try with_reducible rfl))
          refine Steps.pure (v := ?_) Keeps.refl rfl (fun f w' hR hV => ⟨?_, ?_⟩) ?_
          rotate_left
          · (rfl)
          · (clear hV; go_simp; all_goals (try with_reducible rfl))
          refine Steps.pure (v := ?_) Keeps.refl rfl (fun f w' hR hV => ⟨?_, ?_⟩) ?_
          rotate_left
          · (rfl)
          · (obtain ⟨h1, _⟩ := hV; replace h1 : f 1 = _ := h1; go_simp; all_goals (try with_reducible rfl))
          refine Steps.pure (v := ?_) Keeps.refl rfl (fun f w' hR hV => ⟨?_, ?_⟩) ?_
          rotate_left
          · (rfl)
          · (obtain ⟨h0, h2, _⟩ := hV; replace h0 : f 0 = _ := h0; replace h2 : f 2 = _ := h2; go_simp; all_goals (try with_reducible rfl))
          refine Steps.pure (v := ?_) Keeps.refl rfl (fun f w' hR hV => ⟨?_, ?_⟩) ?_
          rotate_left
          · (rfl)
          · (obtain ⟨h3, _⟩ := hV; replace h3 : f 3 = _ := h3; go_simp; all_goals (try with_reducible rfl))
          all_goals first
            | (refine Steps.pure (v := ?_) Keeps.refl rfl (fun f w' hR hV => ⟨?_, ?_⟩) ?_
               rotate_left
               · (obtain ⟨h4, _⟩ := hV; replace h4 : f 4 = _ := h4; exact want_yes (t := 51) rfl (by kernel_rfl) rfl h4)
               · (obtain ⟨h4, _⟩ := hV; replace h4 : f 4 = _ := h4; go_simp; all_goals (try with_reducible rfl)))
            | (refine Steps.skip rfl (fun f w' hR hV => ?_) ?_
               · (obtain ⟨h4, _⟩ := hV; replace h4 : f 4 = _ := h4; first | exact want_no (t := 51) rfl (by kernel_rfl) rfl h4 rfl | exact want_undef (t := 51) rfl (by kernel_rfl) rfl h4))
          all_goals first
            | (refine Steps.pure (v := ?_) Keeps.refl rfl (fun f w' hR hV => ⟨?_, ?_⟩) ?_
               rotate_left
               · (obtain ⟨h4, _⟩ := hV; replace h4 : f 4 = _ := h4; exact want_yes (t := 51) rfl (by kernel_rfl) rfl h4)
               · (obtain ⟨h4, _⟩ := hV; replace h4 : f 4 = _ := h4; go_simp; all_goals (try with_reducible rfl)))
            | (refine Steps.skip rfl (fun f w' hR hV => ?_) ?_
               · (obtain ⟨h4, _⟩ := hV; replace h4 : f 4 = _ := h4; first | exact want_no (t := 51) rfl (by kernel_rfl) rfl h4 rfl | exact want_undef (t := 51) rfl (by kernel_rfl) rfl h4))
          all_goals first
            | (refine Steps.pure (v := ?_) Keeps.refl rfl (fun f w' hR hV => ⟨?_, ?_⟩) ?_
               rotate_left
               · (obtain ⟨h4, _, _, _⟩ := hV; replace h4 : f 4 = _ := h4; exact want_yes (t := 51) rfl (by kernel_rfl) rfl h4)
               · (obtain ⟨h4, h5, h6, _⟩ := hV; replace h4 : f 4 = _ := h4; replace h5 : f 5 = _ := h5; replace h6 : f 6 = _ := h6; go_simp; all_goals (try with_reducible rfl)))
            | (refine Steps.skip rfl (fun f w' hR hV => ?_) ?_
               · (obtain ⟨h4, _, _, _⟩ := hV; replace h4 : f 4 = _ := h4; first | exact want_no (t := 51) rfl (by kernel_rfl) rfl h4 rfl | exact want_undef (t := 51) rfl (by kernel_rfl) rfl h4))
          all_goals first
            | (refine Steps.pure (v := ?_) Keeps.refl rfl (fun f w' hR hV => ⟨?_, ?_⟩) ?_
               rotate_left
               · (obtain ⟨h4, _, _⟩ := hV; replace h4 : f 4 = _ := h4; exact want_yes (t := 51) rfl (by kernel_rfl) rfl h4)
               · (obtain ⟨h4, h7, _⟩ := hV; replace h4 : f 4 = _ := h4; replace h7 : f 7 = _ := h7; go_simp; all_goals (try with_reducible rfl)))
            | (refine Steps.skip rfl (fun f w' hR hV => ?_) ?_
               · (obtain ⟨h4, _, _⟩ := hV; replace h4 : f 4 = _ := h4; first | exact want_no (t := 51) rfl (by kernel_rfl) rfl h4 rfl | exact want_undef (t := 51) rfl (by kernel_rfl) rfl h4))
          all_goals first
            | (refine Steps.pure (v := ?_) Keeps.refl rfl (fun f w' hR hV => ⟨?_, ?_⟩) ?_
               rotate_left
               · (obtain ⟨h4, _, _⟩ := hV; replace h4 : f 4 = _ := h4; exact want_yes (t := 51) rfl (by kernel_rfl) rfl h4)
               · (obtain ⟨h4, h8, _⟩ := hV; replace h4 : f 4 = _ := h4; replace h8 : f 8 = _ := h8; go_simp; all_goals (try with_reducible rfl)))
            | (refine Steps.skip rfl (fun f w' hR hV => ?_) ?_
               · (obtain ⟨h4, _, _⟩ := hV; replace h4 : f 4 = _ := h4; first | exact want_no (t := 51) rfl (by kernel_rfl) rfl h4 rfl | exact want_undef (t := 51) rfl (by kernel_rfl) rfl h4))
          all_goals first
            | (refine Steps.pure (v := ?_) Keeps.refl rfl (fun f w' hR hV => ⟨?_, ?_⟩) ?_
               rotate_left
               · (obtain ⟨h4, _⟩ := hV; replace h4 : f 4 = _ := h4; exact want_yes (t := 51) rfl (by kernel_rfl) rfl h4)
               · (obtain ⟨h4, _⟩ := hV; replace h4 : f 4 = _ := h4; go_simp; all_goals (try with_reducible rfl)))
            | (refine Steps.skip rfl (fun f w' hR hV => ?_) ?_
               · (obtain ⟨h4, _⟩ := hV; replace h4 : f 4 = _ := h4; first | exact want_no (t := 51) rfl (by kernel_rfl) rfl h4 rfl | exact want_undef (t := 51) rfl (by kernel_rfl) rfl h4))
          all_goals first
            | (refine Steps.pure (v := ?_) Keeps.refl rfl (fun f w' hR hV => ⟨?_, ?_⟩) ?_
               rotate_left
               · (obtain ⟨h4, _⟩ := hV; replace h4 : f 4 = _ := h4; exact want_yes (t := 51) rfl (by kernel_rfl) rfl h4)
               · (obtain ⟨h4, _⟩ := hV; replace h4 : f 4 = _ := h4; go_simp; all_goals (try with_reducible rfl)))
            | (refine Steps.skip rfl (fun f w' hR hV => ?_) ?_
               · (obtain ⟨h4, _⟩ := hV; replace h4 : f 4 = _ := h4; first | exact want_no (t := 51) rfl (by kernel_rfl) rfl h4 rfl | exact want_undef (t := 51) rfl (by kernel_rfl) rfl h4))
          all_goals first
            | (refine Steps.pure (v := ?_) Keeps.refl rfl (fun f w' hR hV => ⟨?_, ?_⟩) ?_
               rotate_left
               · (obtain ⟨h4, _, _, _⟩ := hV; replace h4 : f 4 = _ := h4; exact want_yes (t := 51) rfl (by kernel_rfl) rfl h4)
               · (obtain ⟨h4, h10, h11, _⟩ := hV; replace h4 : f 4 = _ := h4; replace h10 : f 10 = _ := h10; replace h11 : f 11 = _ := h11; go_simp; all_goals (try with_reducible rfl)))
            | (refine Steps.skip rfl (fun f w' hR hV => ?_) ?_
               · (obtain ⟨h4, _, _, _⟩ := hV; replace h4 : f 4 = _ := h4; first | exact want_no (t := 51) rfl (by kernel_rfl) rfl h4 rfl | exact want_undef (t := 51) rfl (by kernel_rfl) rfl h4))
          all_goals first
            | (refine Steps.pure (v := ?_) Keeps.refl rfl (fun f w' hR hV => ⟨?_, ?_⟩) ?_
               rotate_left
               · (obtain ⟨h4, _, _⟩ := hV; replace h4 : f 4 = _ := h4; exact want_yes (t := 51) rfl (by kernel_rfl) rfl h4)
               · (obtain ⟨h4, h12, _⟩ := hV; replace h4 : f 4 = _ := h4; replace h12 : f 12 = _ := h12; go_simp; all_goals (try with_reducible rfl)))
            | (refine Steps.skip rfl (fun f w' hR hV => ?_) ?_
               · (obtain ⟨h4, _, _⟩ := hV; replace h4 : f 4 = _ := h4; first | exact want_no (t := 51) rfl (by kernel_rfl) rfl h4 rfl | exact want_undef (t := 51) rfl (by kernel_rfl) rfl h4))
          all_goals first
            | (refine Steps.pure (v := ?_) Keeps.refl rfl (fun f w' hR hV => ⟨?_, ?_⟩) ?_
               rotate_left
               · (obtain ⟨h4, _, _⟩ := hV; replace h4 : f 4 = _ := h4; exact want_yes (t := 51) rfl (by kernel_rfl) rfl h4)
               · (obtain ⟨h4, h13, _⟩ := hV; replace h4 : f 4 = _ := h4; replace h13 : f 13 = _ := h13; go_simp; all_goals (try with_reducible rfl)))
            | (refine Steps.skip rfl (fun f w' hR hV => ?_) ?_
               · (obtain ⟨h4, _, _⟩ := hV; replace h4 : f 4 = _ := h4; first | exact want_no (t := 51) rfl (by kernel_rfl) rfl h4 rfl | exact want_undef (t := 51) rfl (by kernel_rfl) rfl h4))
          all_goals first
            | (refine Steps.pure (v := ?_) Keeps.refl rfl (fun f w' hR hV => ⟨?_, ?_⟩) ?_
               rotate_left
               · (obtain ⟨h4, _, _⟩ := hV; replace h4 : f 4 = _ := h4; exact want_yes (t := 51) rfl (by kernel_rfl) rfl h4)
               · (obtain ⟨h4, h14, _⟩ := hV; replace h4 : f 4 = _ := h4; replace h14 : f 14 = _ := h14; go_simp; all_goals (try with_reducible rfl)))
            | (refine Steps.skip rfl (fun f w' hR hV => ?_) ?_
               · (obtain ⟨h4, _, _⟩ := hV; replace h4 : f 4 = _ := h4; first | exact want_no (t := 51) rfl (by kernel_rfl) rfl h4 rfl | exact want_undef (t := 51) rfl (by kernel_rfl) rfl h4))
          all_goals first
            | (refine Steps.pure (v := ?_) Keeps.refl rfl (fun f w' hR hV => ⟨?_, ?_⟩) ?_
               rotate_left
               · (obtain ⟨h4, _, _, _⟩ := hV; replace h4 : f 4 = _ := h4; exact want_yes (t := 51) rfl (by kernel_rfl) rfl h4)
               · (obtain ⟨h4, h9, h15, _⟩ := hV; replace h4 : f 4 = _ := h4; replace h9 : f 9 = _ := h9; replace h15 : f 15 = _ := h15; go_simp; all_goals (try with_reducible rfl)))
            | (refine Steps.skip rfl (fun f w' hR hV => ?_) ?_
               · (obtain ⟨h4, _, _, _⟩ := hV; replace h4 : f 4 = _ := h4; first | exact want_no (t := 51) rfl (by kernel_rfl) rfl h4 rfl | exact want_undef (t := 51) rfl (by kernel_rfl) rfl h4))
          all_goals (
            refine Steps.pure (v := ?_) Keeps.refl rfl (fun f w' hR hV => ⟨?_, ?_⟩) ?_
            rotate_left
            · (rfl)
            · (obtain ⟨h4, h16, _⟩ := hV; replace h4 : f 4 = _ := h4; replace h16 : f 16 = _ := h16; go_simp; all_goals (try with_reducible rfl)))
          all_goals (refine Steps.done [17] (by kernel_rfl) rfl (fun f wq hR hV => ?_); obtain ⟨h17, _⟩ := hV; replace h17 : f 17 = _ := h17; simp only [h17])
          have HKY := Lib.hid (HKQ.out.trans ((Keeps.refl wx).drew.trans hR))
          obtain ⟨wy, rfl⟩ : ∃ wy : World, wy = wq := ⟨_, rfl⟩
          obtain ⟨y7, y8⟩ := HL.out _ HKY.out
          clear hR
          go_upto_region 11 with (fail)
          go_cut [13] from 79 to 91 (fun v13 wx => v13 = .pointer (some ⟨wy.heap.size, 0, none⟩) ∧ Hid (Keeps wy wx ∧ wx.cell? ⟨wy.heap.size, 0, none⟩ = some (.int .i64 p.l.acc) ∧ wx.cell? ⟨wy.heap.size, 1, none⟩ = some (.int .i64 p.l.amt)))
          case first =>
            go_region_held3 (fun w' => w'.cell? ⟨b1, i * 14 + 7, none⟩ = some (.int .i64 p.l.acc) ∧ w'.cell? ⟨b1, i * 14 + 8, none⟩ = some (.int .i64 p.l.amt)) (first | go_keep | (exact ⟨y7, y8⟩)) (fail)
            go_wp2_with fail
            go_meet
            exact ⟨rfl, Lib.hid ⟨((Keeps.refl wy).alloc _).drew, by go_simp, by go_simp⟩⟩
          case rest =>
            obtain ⟨rfl, HC⟩ := hcut
            obtain ⟨wz, rfl⟩ : ∃ wz : World, wz = wc := ⟨_, rfl⟩
            obtain ⟨hkz, x0, x1⟩ := HC.out
            have HKZ : Hid (Keeps wa wz) := Lib.hid (HKY.out.trans hkz)
            have hbz := World.block_lt_of_cell? _ _ x0
            simp only at hbz
            have HPZ : Hid (∀ W, Keeps wz W → W.cell? ⟨wy.heap.size, 0, none⟩ = some (.int .i64 p.l.acc) ∧ W.cell? ⟨wy.heap.size, 1, none⟩ = some (.int .i64 p.l.amt)) := Lib.hid (fun W hW => ⟨hW.cell x0, hW.cell x1⟩)
            have HSZ : Hid (Sl wz 2 ao3 g.length cap3 b3 0 (g.flatMap Bal.cells)) := Lib.hid (HS3.out.keeps HKZ.out)
            obtain ⟨ao5, hcf, hs5⟩ := Sl.cutFrom HSZ.out Try.underlying42 Try.sizeOf52 n hnM
            have hct := run_cutTo Try.underlying42 Try.sizeOf52 ao3 g.length cap3 n (by omega) hcap3
            have HS5 := Lib.hid hs5
            have HS1 := Lib.hid (Sl.take HSZ.out n hnM)
            have HO1 : Hid (∀ u ∈ (g.flatMap Bal.cells).take (n * 2), u.oneCell' = true) := Lib.hid (fun u hu => ones_bal g u (List.mem_of_mem_take hu))
            have HO2 : Hid (∀ u ∈ (g.flatMap Bal.cells).drop (n * 2), u.oneCell' = true) := Lib.hid (fun u hu => ones_bal g u (List.mem_of_mem_drop hu))
            clear hs5 x0 x1 hkz HC
            go_wp2_with fail
            go_region_held3 (fun w' => w'.cell? ⟨wy.heap.size, 0, none⟩ = some (.int .i64 p.l.acc) ∧ w'.cell? ⟨wy.heap.size, 1, none⟩ = some (.int .i64 p.l.amt))
              (first | exact (HPZ.out _ hk3) | exact (HPZ.out _ hk2) | exact (HPZ.out _ hk1) | exact (HPZ.out _ (hk1.alloc _)) | exact (HPZ.out _ (Keeps.refl wz).drew) | exact (HPZ.out _ ((Keeps.refl wz).alloc _).drew) | exact (HPZ.out _ (((Keeps.refl wz).alloc _).alloc _).drew))
              (first | (guard_hyp hown2 : _; refine step_all_raw elemBalN rfl (.tmp 99) (.tmp 102) rfl v2 (n + 1) _ (by rfl) wz.heap.size hown2 hz2 ao5 (g.length - n) (cap3 - n) b3 (0 + n * 2) ((g.flatMap Bal.cells).drop (n * 2)) (by rfl) (HS5.out.keeps hk2) HO2.out (by omega) (by omega) ?_; intro v3 w3' hown3 hgrow3 hat3; have hk3 : Keeps wz w3' := Below.grown hk2 hgrow3 hk2.size (fun j hj => (hown2.lt j hj).1)) | (guard_hyp hown1 : _; refine step_all_raw elemBalN rfl (.tmp 96) (.tmp 98) rfl v1 n _ (by rfl) wz.heap.size (by first | exact hown1 | exact hown1.alloc _) (by first | omega | (simp; omega)) _ 1 1 _ 0 [.int .i64 p.l.acc, .int .i64 p.l.amt] (by rfl) (by exact Sl.block rfl (fun j u hj => by first | exact cell_newx (by simp) hj | (exact hgrow1.cell (cell_newx (by simp) hj) (by simp [Act.eval, Value.ownBlock])) | (exact hgrow1.cell (Keeps.cell ((Keeps.refl _).alloc _) (cell_newx (by simp) hj)) (by simp [Act.eval, Value.ownBlock])))) (by intro u hu; simp at hu; rcases hu with rfl | rfl <;> rfl) (by omega) (by omega) ?_; intro v2 w2' hown2 hgrow2 hat2; have hk2 : Keeps wz w2' := (by first | exact Below.grown hk1 hgrow2 hk1.size (fun j hj => (hown1.lt j hj).1) | exact Below.grown (Keeps.alloc hk1 _) hgrow2 (by simp; omega) (fun j hj => (hown1.lt j hj).1)); have hz2 := hk2.size) | (refine step_all_raw elemBalN rfl (.tmp 92) (.tmp 95) rfl _ 0 [] (by rfl) wz.heap.size (by first | exact own_emptyx (by simp) (by simp) | exact (own_emptyx (by simp) (by simp)).alloc _) (by first | (simp; done) | (simp; omega)) ao3 n cap3 b3 0 ((g.flatMap Bal.cells).take (n * 2)) (by rfl) (by first | exact HS1.out.keeps ((Keeps.refl wz).alloc _).drew | exact HS1.out.keeps (((Keeps.refl wz).alloc _).alloc _).drew) HO1.out (by omega) (by omega) ?_; intro v1 w1' hown1 hgrow1 hat1; rw [Nat.zero_add, List.nil_append] at hown1; have hk1 : Keeps wz w1' := (by first | exact Below.grown ((Keeps.refl wz).alloc _).drew hgrow1 (by first | (simp; done) | (simp; omega)) (fun j hj => by simp [Act.eval, Value.ownBlock] at hj; omega) | exact Below.grown (((Keeps.refl wz).alloc _).alloc _).drew hgrow1 (by first | (simp; done) | (simp; omega)) (fun j hj => by simp [Act.eval, Value.ownBlock] at hj; omega)); have hz1 := hk1.size))
            all_goals
              have HR3 : Hid (w3'.ownsRow w1.heap.size 52 2 v3 (putN g p.l.acc p.l.amt).length ((putN g p.l.acc p.l.amt).flatMap Bal.cells)) := Lib.hid (by
                have h := own_baseP hown3 (Nat.le_trans HW.out.1.size HKZ.out.size)
                rw [show n + 1 + (g.length - n) = g.length + 1 from by omega] at h
                have e1 : (putN g p.l.acc p.l.amt).length = g.length + 1 := by rw [HP.out, List.length_append, List.length_append, List.length_take, List.length_drop, List.length_singleton]; omega
                have e2 : (putN g p.l.acc p.l.amt).flatMap Bal.cells = (g.flatMap Bal.cells).take (n * 2) ++ [.int .i64 p.l.acc, .int .i64 p.l.amt] ++ (g.flatMap Bal.cells).drop (n * 2) := by
                  rw [HP.out, List.flatMap_append, List.flatMap_append, flat_takeP Bal.len, flat_dropP Bal.len]; rfl
                rw [e1, e2]; exact h)
              have HKK := Lib.hid hk3
              clear hown1 hgrow1 hat1 hk1 hz1 hown2 hgrow2 hat2 hk2 hz2 hown3 hgrow3 hat3 hk3
              go_wp2_with fail
              go_roundw
              case rel => exact ⟨i + 1, putN g p.l.acc p.l.amt, by omega, by have := putN_len g p.l.acc p.l.amt; omega, by go_num, HG2, Lib.hid ⟨HW.out.1.trans (HKZ.out.trans HKK.out), HR3.out⟩⟩
              case measure => simp [intOf]; omega
    · obtain rfl : i = P.length := by omega
      have HGF : Hid (g = netR P) := Lib.hid (by have := HG.out; rwa [List.take_length] at this)
      have HIS : Hid (g.length ≤ 320) := Lib.hid (by omega)
      obtain ⟨ao3, cap3, b3, e3, hs3⟩ := Sl.own HW.out.2
      subst e3
      have HS3 := Lib.hid hs3
      have hcap3 := hs3.cap
      have hle3 := hs3.le
      have HKA := Lib.hid (HKP.out.trans HW.out.1)
      clear hs3
      go_wp2_with fail
      go_loopw [14, 15] (fun vs vj ws => ∃ (j m : Nat), j ≤ g.length ∧ m ≤ j ∧ vj = .int .i64 j ∧ Hid ((nzN (g.take j)).length = m ∧ Keeps wa ws ∧ ws.ownsRow wa.heap.size 52 2 vs m ((nzN (g.take j)).flatMap Bal.cells))) (fun _ vj _ => g.length - (intOf vj).toNat)
      case atStart => exact ⟨0, 0, Nat.zero_le _, Nat.le_refl _, rfl, Lib.hid ⟨rfl, Keeps.refl _, World.ownsRow_nil _ _ _ _⟩⟩
      case round =>
        obtain ⟨j, m, hj, hmj, rfl, HX⟩ := hrel
        by_cases hjl : j < g.length
        · have HLj : Recs wr 2 Bal.cells ao3 g cap3 b3 0 := HS3.out.keeps HX.out.2.1
          have hix := Sl.at HLj Try.underlying42 Try.sizeOf52 j hjl
          obtain ⟨q, hq⟩ : ∃ q, g[j] = q := ⟨_, rfl⟩
          have d0 := HLj.cell Bal.len j hjl 0 (.int .i64 q.acc) (by rw [hq]; rfl)
          have d1 := HLj.cell Bal.len j hjl 1 (.int .i64 q.amount) (by rw [hq]; rfl)
          simp only [Nat.add_zero, Nat.zero_add] at d0 d1 hix
          have HT : Hid (nzN (g.take (j + 1)) = if q.amount = 0 then nzN (g.take j) else nzN (g.take j) ++ [q]) := Lib.hid (by
            rw [take_snoc _ j hjl, hq]
            unfold nzN
            rw [List.filter_append]
            by_cases h : q.amount = 0
            · rw [if_pos h]; simp [h]
            · rw [if_neg h]; simp [h])
          clear HLj hq
          by_cases hz : q.amount = 0
          · have ez : (q.amount != 0) = false := by simp [hz]
            rw [if_pos hz] at HT
            clear hz
            go_wp2_with fail
            go_roundw
            case rel => exact ⟨j + 1, m, by omega, by omega, by go_num, Lib.hid (by rw [HT.out]; exact HX.out)⟩
            case measure => simp [intOf]; omega
          · have ez : (q.amount != 0) = true := by simp [hz]
            rw [if_neg hz] at HT
            clear hz
            go_wp2_with (at_builtin; refine wpList_appx elemBalN rfl _ _ rfl wa _ _ _ rfl wa.heap.size HX.out.2.2 HX.out.2.1 HX.out.2.1.size [.int .i64 q.acc, .int .i64 q.amount] _ 1 rfl rfl rfl (by intro u hu; simp at hu; rcases hu with rfl | rfl <;> rfl) (by omega) (by omega) ?_; intro v5 w5 hown5 hb5 hsz5; have HY : Hid ((nzN (g.take (j + 1))).length = m + 1 ∧ Keeps wa w5 ∧ w5.ownsRow wa.heap.size 52 2 v5 (m + 1) ((nzN (g.take (j + 1))).flatMap Bal.cells)) := (Lib.hid ⟨by rw [HT.out, List.length_append, HX.out.1]; rfl, hb5, by rw [HT.out, List.flatMap_append]; exact hown5⟩); clear hown5 hb5 hsz5)
            go_roundw
            case rel => exact ⟨j + 1, m + 1, by omega, by omega, by go_num, HY⟩
            case measure => simp [intOf]; omega
        · obtain rfl : j = g.length := by omega
          have hx := HX.out
          rw [List.take_length] at hx
          go_wp2_with fail
          go_ret
          refine ⟨_, rfl, ?_, HKA.out.trans hx.2.1⟩
          rw [← HGF.out, hx.1]
          exact own_baseP hx.2.2 HKA.out.size
end Go.Proofs.Ytfddhmhagijodaa
