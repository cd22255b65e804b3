/- The reference's Pairs: the walk. -/
import Derived.Test.YtfddhmhagijodaaRPlsW
import Derived.Test.YtfddhmhagijodaaPrEq
import Derived.Test.YtfddhmhagijodaaRNetW
namespace Go.Proofs.Ytfddhmhagijodaa
open Go.RowKit
set_option linter.unusedSimpArgs false
set_option linter.unusedVariables false

theorem elemPrR : ElemOf Try.prog 64 66 (.agg #[.int .i64 0, .int .i64 0]) 2 16 := ⟨Try.underlying64, by kernel_rfl, rfl, by omega⟩
theorem ones_pr (l : List Pr) : ∀ u ∈ l.flatMap Pr.cells, u.oneCell' = true := fun u hu => by
  obtain ⟨a, _, hu⟩ := List.mem_flatMap.1 hu
  exact a.one u hu
set_option maxRecDepth 100000 in
set_option maxHeartbeats 16000000 in
theorem rpairs_any (bv : List Value) (es : List JV) (ms : List MV) (date : Int) (w : World) (H : Bks w bv es ms) (hn : es.length ≤ 40) (hm : ∀ e ∈ es, e.x.lines.length ≤ 8) :
    Calls Try.prog 25 #[.agg bv.toArray, .int .i64 date] w
      fun e w' => ∃ v, e = .returned v ∧ w'.ownsRow w.heap.size 66 2 v (pairsR (((rsort (rall 0 es)).filter (keepQ date)).map RP.pr)).length ((pairsR (((rsort (rall 0 es)).filter (keepQ date)).map RP.pr)).flatMap Pr.cells) ∧ Keeps w w' := by
  have hbl := H.len
  have HPL := Lib.hid (fun W hW => rallW_any bv es ms W (H.keeps hW) hn hm)
  have hlen : (rsort (rall 0 es)).length ≤ 320 := by rw [rsort_len]; have := rall_len 8 es 0 hm; omega
  obtain ⟨P, hP⟩ : ∃ P, rsort (rall 0 es) = P := ⟨_, rfl⟩
  rw [hP] at HPL hlen ⊢
  clear hP H hm
  have hrg := box_range w bv 36
  have hk0 : Keeps w (w.alloc (.cells bv.toArray 36)) := (Keeps.refl w).alloc _
  go_enter Try.func25, Try.ntmps25
  go_wp2_with (first | (refine wpList_books rfl (.tmp 2) rfl w.heap.size bv hbl rfl hrg ?_; clear hrg) | (go_at_call 43; refine (HPL.out _ hk0).mono ?_; rintro e w1 ⟨v1, rfl, ho1, hk1⟩; obtain ⟨ao1, cap1, b1, e1, hs1⟩ := Sl.own ho1; subst e1; have HSP := Lib.hid hs1; have HKP := Lib.hid (hk0.trans hk1); clear hk1 hk0 ho1))
  have hcap1 := HSP.out.cap
  have hle1 := HSP.out.le
  go_loopw [5, 7] (fun vo vi wr => ∃ (i : Nat) (g : List Pr), i ≤ P.length ∧ g.length ≤ i ∧ vi = .int .i64 i ∧ Hid (g = pairsR (((P.take i).filter (keepQ date)).map RP.pr)) ∧ Hid (Keeps w1 wr ∧ wr.ownsRow w1.heap.size 66 2 vo g.length (g.flatMap Pr.cells))) (fun _ vi _ => P.length - (intOf vi).toNat)
  case atStart => exact ⟨0, [], Nat.zero_le _, Nat.le_refl _, rfl, Lib.hid rfl, Lib.hid ⟨Keeps.refl w1, World.ownsRow_nil _ _ _ _⟩⟩
  case round =>
    obtain ⟨i, g, hi, hgi, rfl, HG, HW⟩ := hrel
    obtain ⟨wa, rfl⟩ : ∃ wa : World, wa = wr := ⟨_, rfl⟩
    by_cases hlt : i < P.length
    · obtain ⟨p, hpk⟩ : ∃ p, P[i] = p := ⟨_, rfl⟩
      have hixp := Sl.at (show Recs wa 14 RP.cells ao1 P cap1 b1 0 from HSP.out.keeps HW.out.1) Try.underlying81 Try.sizeOf84 i hlt
      simp only [Nat.zero_add] at hixp
      have HL : Hid (∀ W, Keeps wa W → W.cell? ⟨b1, i * 14 + 1, none⟩ = some (.int .i64 p.y.x.ent) ∧ W.cell? ⟨b1, i * 14 + 9, none⟩ = some (.int .i64 p.l.ptn) ∧ W.cell? ⟨b1, i * 14 + 2, none⟩ = some (.int .i64 p.y.x.date)) := Lib.hid (fun W hW => by
        have hr : Recs W 14 RP.cells ao1 P cap1 b1 0 := HSP.out.keeps (HW.out.1.trans hW)
        have h1 := hr.cell RP.len i hlt 1 (.int .i64 p.y.x.ent) (by rw [hpk]; rfl)
        have h9 := hr.cell RP.len i hlt 9 (.int .i64 p.l.ptn) (by rw [hpk]; rfl)
        have h2 := hr.cell RP.len i hlt 2 (.int .i64 p.y.x.date) (by rw [hpk]; rfl)
        simp only [Nat.zero_add] at h1 h9 h2
        exact ⟨h1, h9, h2⟩)
      have HG2 : Hid (pairsR (((P.take (i + 1)).filter (keepQ date)).map RP.pr) = if keepQ date p then insU p.pr g else g) := Lib.hid (by
        rw [take_snoc _ i hlt, hpk, List.filter_append, List.filter_cons]
        by_cases hk : keepQ date p = true
        · rw [if_pos hk, if_pos hk, List.map_append, HG.out]; exact pairsR_snoc _ _
        · rw [if_neg hk, if_neg hk, HG.out]; simp)
      obtain ⟨y1, y9, y2⟩ := HL.out _ (Keeps.refl wa)
      obtain ⟨x, hx⟩ : ∃ x : Pr, p.pr = x := ⟨_, rfl⟩
      have hxa : p.y.x.ent = x.a := by rw [← hx]; rfl
      have hxb : p.l.ptn = x.b := by rw [← hx]; rfl
      have hkq : keepQ date p = (decide (x.b ≠ -1) && decide (p.y.x.date ≤ date)) := by rw [← hxb]; rfl
      rw [hx, hkq] at HG2
      rw [hxa] at y1 HL
      rw [hxb] at y9 HL
      clear hpk hx hxa hxb hkq
      go_upto_region 6 with (fail)
      go_cut [8] from 18 to 30 (fun v8 wx => v8 = .pointer (some ⟨wa.heap.size, 0, none⟩) ∧ Hid (Keeps wa wx ∧ wx.cell? ⟨wa.heap.size, 0, none⟩ = some (.int .i64 x.a) ∧ wx.cell? ⟨wa.heap.size, 1, none⟩ = some (.int .i64 x.b)))
      case first =>
        go_region_held3 (fun w' => w'.cell? ⟨b1, i * 14 + 1, none⟩ = some (.int .i64 x.a) ∧ w'.cell? ⟨b1, i * 14 + 9, none⟩ = some (.int .i64 x.b)) (first | go_keep | (exact ⟨y1, y9⟩)) (fail)
        go_wp2_with fail
        go_meet
        exact ⟨rfl, Lib.hid ⟨((Keeps.refl wa).alloc _).drew, by go_simp, by go_simp⟩⟩
      case rest =>
        obtain ⟨rfl, HC⟩ := hcut
        obtain ⟨wb, rfl⟩ : ∃ wb : World, wb = wc := ⟨_, rfl⟩
        have HKB : Hid (Keeps wa wb) := Lib.hid HC.out.1
        have HXB : Hid (∀ W, Keeps wb W → W.cell? ⟨wa.heap.size, 0, none⟩ = some (.int .i64 x.a) ∧ W.cell? ⟨wa.heap.size, 1, none⟩ = some (.int .i64 x.b)) := Lib.hid (fun W hW => ⟨hW.cell HC.out.2.1, hW.cell HC.out.2.2⟩)
        clear HC y1 y9 y2
        obtain ⟨z0, z1⟩ := HXB.out _ (Keeps.refl wb)
        obtain ⟨y1, y9, y2⟩ := HL.out _ HKB.out
        by_cases hc1 : x.b = -1
        · have ec1 : (x.b == -1) = true := by simpa using hc1
          rw [show decide (x.b ≠ -1) = false from decide_eq_false (fun h => h hc1), Bool.false_and, if_neg (by simp)] at HG2
          clear hc1
          go_wp2_with fail
          go_roundw
          case rel => exact ⟨i + 1, g, by omega, by omega, by go_num, Lib.hid HG2.out.symm, Lib.hid ⟨HW.out.1.trans HKB.out, own_keepsP HW.out.2 HKB.out⟩⟩
          case measure => simp [intOf]; omega
        · have ec1 : (x.b == -1) = false := by simpa using hc1
          rw [show decide (x.b ≠ -1) = true from decide_eq_true hc1, Bool.true_and] at HG2
          clear hc1
          by_cases hc2 : p.y.x.date ≤ date
          · have ec2 : decide (date < p.y.x.date) = false := decide_eq_false (by omega)
            rw [decide_eq_true hc2, if_pos rfl] at HG2
            clear hc2
            obtain ⟨ao3, cap3, b3, e3, hs3⟩ := Sl.own HW.out.2
            subst e3
            have HS3 := Lib.hid hs3
            have hcap3 := hs3.cap
            have hle3 := hs3.le
            clear hs3
            go_wp2_with fail
            clear z0 z1 y1 y9 y2 ec1 ec2
            go_loopw [9] (fun vn w4 => ∃ n : Nat, n ≤ g.length ∧ vn = .int .i64 n ∧ Hid (Keeps wb w4) ∧ Hid (∀ q ∈ g.take n, PrLt q x)) (fun vn _ => g.length - (intOf vn).toNat)
            case atStart => exact ⟨0, Nat.zero_le _, rfl, Lib.hid (Keeps.refl wb), Lib.hid (by simp)⟩
            case round =>
              obtain ⟨n, hnM, rfl, HKN, HB4⟩ := hrel
              obtain ⟨wd, rfl⟩ : ∃ wd : World, wd = wr := ⟨_, rfl⟩
              obtain ⟨bq, hbq⟩ : ∃ bq : Bool, bq = decide (∃ h : n < g.length, PrLt g[n] x) := ⟨_, rfl⟩
              have HBQ := Lib.hid hbq
              go_upto_region 9 with (fail)
              go_cut [77] from 44 to 77 (fun v wx => v = .bool bq ∧ Hid (Keeps wd wx))
              case first =>
                by_cases hlt2 : n < g.length
                · have hix4 := Sl.at (show Recs wa 2 Pr.cells ao3 g cap3 b3 0 from HS3.out) Try.underlying64 Try.sizeOf66 n hlt2
                  simp only [Nat.zero_add] at hix4
                  obtain ⟨q, hq⟩ : ∃ q, g[n] = q := ⟨_, rfl⟩
                  have HX : Hid (∀ W, Keeps wd.drew W → W.cell? ⟨b3, n * 2, none⟩ = some (.int .i64 q.a) ∧ W.cell? ⟨b3, n * 2 + 1, none⟩ = some (.int .i64 q.b) ∧ W.cell? ⟨wa.heap.size, 0, none⟩ = some (.int .i64 x.a) ∧ W.cell? ⟨wa.heap.size, 1, none⟩ = some (.int .i64 x.b)) := Lib.hid (fun W hW => by
                    have hr : Recs W 2 Pr.cells ao3 g cap3 b3 0 := HS3.out.keeps (HKB.out.trans (HKN.out.drew.trans hW))
                    have h0 := hr.cell Pr.len n hlt2 0 (.int .i64 q.a) (by rw [hq]; rfl)
                    have h1 := hr.cell Pr.len n hlt2 1 (.int .i64 q.b) (by rw [hq]; rfl)
                    simp only [Nat.zero_add, Nat.add_zero] at h0 h1
                    exact ⟨h0, h1, HXB.out W (HKN.out.drew.trans hW)⟩)
                  have hdl : decide ((n : Int) < (g.length : Int)) = true := by simp; omega
                  by_cases ha : q.a < x.a
                  · have ea : decide (q.a < x.a) = true := by simpa using ha
                    have hbt : bq = true := by rw [hbq]; exact decide_eq_true ⟨hlt2, by rw [hq]; exact .inl ha⟩
                    clear hbq HBQ hq ha
                    subst hbt
                    go_wp2_with fail
                    refine wp_region_steps (A := ?_) Keeps [some 44, some 45, some 46, some 47, some 48, some 49, some 50, some 51, some 52, some 53, some 54, some 55, some 56, some 57, some 58, some 59, some 60, some 61, some 62, some 63, some 64, some 65, some 66, some 67, some 68, some 69, some 70, some 71, some 72, some 73, some 74, some 75, some 76, some 77] [[], [], [1], [0, 2], [3], [4], [4], [4, 5, 6], [4, 7], [4, 8], [4], [4, 10], [4, 9, 11], [4, 12], [13], [13], [13, 14, 15], [13, 16], [13, 17], [13], [13, 19], [13, 18, 20], [13, 21], [22], [22], [22, 23, 24], [22, 25], [22, 26], [22], [22, 28], [22, 27, 29], [13, 22, 30], [4, 13, 31], [4, 32]] 34 (by kernel_rfl) (by kernel_rfl) (by kernel_rfl) (by kernel_rfl) (by kernel_rfl) (by kernel_rfl) Keeps.refl (fun _ _ _ => Keeps.trans) ?_ ?_
                    rotate_left
                    · intro f; simp only [putL, Act.put, List.setIfInBounds_toArray, List.set_cons_zero, List.set_cons_succ, Nat.zero_add, Nat.reduceAdd]; exact rfl
                    refine Steps.pure (v := ?_) Keeps.refl rfl (fun f w' hR hV => ⟨?_, ?_⟩) ?_
                    rotate_left
                    · (rfl)
                    · (clear hV; obtain ⟨x0, x1, z0, z1⟩ := HX.out _ hR; go_simp; all_goals (try with_reducible rfl))
                    refine Steps.pure (v := ?_) Keeps.refl rfl (fun f w' hR hV => ⟨?_, ?_⟩) ?_
                    rotate_left
                    · (rfl)
                    · (clear hV; obtain ⟨x0, x1, z0, z1⟩ := HX.out _ hR; go_simp; all_goals (try with_reducible rfl))
                    refine Steps.pure (v := ?_) Keeps.refl rfl (fun f w' hR hV => ⟨?_, ?_⟩) ?_
                    rotate_left
                    · (rfl)
                    · (obtain ⟨h1, _⟩ := hV; replace h1 : f 1 = _ := h1; obtain ⟨x0, x1, z0, z1⟩ := HX.out _ hR; go_simp; all_goals (try with_reducible rfl))
                    refine Steps.pure (v := ?_) Keeps.refl rfl (fun f w' hR hV => ⟨?_, ?_⟩) ?_
                    rotate_left
                    · (rfl)
                    · (obtain ⟨h0, h2, _⟩ := hV; replace h0 : f 0 = _ := h0; replace h2 : f 2 = _ := h2; obtain ⟨x0, x1, z0, z1⟩ := HX.out _ hR; go_simp; all_goals (try with_reducible rfl))
                    refine Steps.pure (v := ?_) Keeps.refl rfl (fun f w' hR hV => ⟨?_, ?_⟩) ?_
                    rotate_left
                    · (rfl)
                    · (obtain ⟨h3, _⟩ := hV; replace h3 : f 3 = _ := h3; obtain ⟨x0, x1, z0, z1⟩ := HX.out _ hR; go_simp; all_goals (try with_reducible rfl))
                    all_goals first
                      | (refine Steps.pure (v := ?_) Keeps.refl rfl (fun f w' hR hV => ⟨?_, ?_⟩) ?_
                         rotate_left
                         · (obtain ⟨h4, _⟩ := hV; replace h4 : f 4 = _ := h4; exact want_yes (t := 48) rfl (by kernel_rfl) rfl h4)
                         · (obtain ⟨h4, _⟩ := hV; replace h4 : f 4 = _ := h4; obtain ⟨x0, x1, z0, z1⟩ := HX.out _ hR; go_simp; all_goals (try with_reducible rfl)))
                      | (refine Steps.skip rfl (fun f w' hR hV => ?_) ?_
                         · (obtain ⟨h4, _⟩ := hV; replace h4 : f 4 = _ := h4; first | exact want_no (t := 48) rfl (by kernel_rfl) rfl h4 rfl | exact want_undef (t := 48) rfl (by kernel_rfl) rfl h4))
                    all_goals first
                      | (refine Steps.pure (v := ?_) Keeps.refl rfl (fun f w' hR hV => ⟨?_, ?_⟩) ?_
                         rotate_left
                         · (obtain ⟨h4, _⟩ := hV; replace h4 : f 4 = _ := h4; exact want_yes (t := 48) rfl (by kernel_rfl) rfl h4)
                         · (obtain ⟨h4, _⟩ := hV; replace h4 : f 4 = _ := h4; obtain ⟨x0, x1, z0, z1⟩ := HX.out _ hR; go_simp; all_goals (try with_reducible rfl)))
                      | (refine Steps.skip rfl (fun f w' hR hV => ?_) ?_
                         · (obtain ⟨h4, _⟩ := hV; replace h4 : f 4 = _ := h4; first | exact want_no (t := 48) rfl (by kernel_rfl) rfl h4 rfl | exact want_undef (t := 48) rfl (by kernel_rfl) rfl h4))
                    all_goals first
                      | (refine Steps.pure (v := ?_) Keeps.refl rfl (fun f w' hR hV => ⟨?_, ?_⟩) ?_
                         rotate_left
                         · (obtain ⟨h4, _, _, _⟩ := hV; replace h4 : f 4 = _ := h4; exact want_yes (t := 48) rfl (by kernel_rfl) rfl h4)
                         · (obtain ⟨h4, h5, h6, _⟩ := hV; replace h4 : f 4 = _ := h4; replace h5 : f 5 = _ := h5; replace h6 : f 6 = _ := h6; obtain ⟨x0, x1, z0, z1⟩ := HX.out _ hR; go_simp; all_goals (try with_reducible rfl)))
                      | (refine Steps.skip rfl (fun f w' hR hV => ?_) ?_
                         · (obtain ⟨h4, _, _, _⟩ := hV; replace h4 : f 4 = _ := h4; first | exact want_no (t := 48) rfl (by kernel_rfl) rfl h4 rfl | exact want_undef (t := 48) rfl (by kernel_rfl) rfl h4))
                    all_goals first
                      | (refine Steps.pure (v := ?_) Keeps.refl rfl (fun f w' hR hV => ⟨?_, ?_⟩) ?_
                         rotate_left
                         · (obtain ⟨h4, _, _⟩ := hV; replace h4 : f 4 = _ := h4; exact want_yes (t := 48) rfl (by kernel_rfl) rfl h4)
                         · (obtain ⟨h4, h7, _⟩ := hV; replace h4 : f 4 = _ := h4; replace h7 : f 7 = _ := h7; obtain ⟨x0, x1, z0, z1⟩ := HX.out _ hR; go_simp; all_goals (try with_reducible rfl)))
                      | (refine Steps.skip rfl (fun f w' hR hV => ?_) ?_
                         · (obtain ⟨h4, _, _⟩ := hV; replace h4 : f 4 = _ := h4; first | exact want_no (t := 48) rfl (by kernel_rfl) rfl h4 rfl | exact want_undef (t := 48) rfl (by kernel_rfl) rfl h4))
                    all_goals first
                      | (refine Steps.pure (v := ?_) Keeps.refl rfl (fun f w' hR hV => ⟨?_, ?_⟩) ?_
                         rotate_left
                         · (obtain ⟨h4, _, _⟩ := hV; replace h4 : f 4 = _ := h4; exact want_yes (t := 48) rfl (by kernel_rfl) rfl h4)
                         · (obtain ⟨h4, h8, _⟩ := hV; replace h4 : f 4 = _ := h4; replace h8 : f 8 = _ := h8; obtain ⟨x0, x1, z0, z1⟩ := HX.out _ hR; go_simp; all_goals (try with_reducible rfl)))
                      | (refine Steps.skip rfl (fun f w' hR hV => ?_) ?_
                         · (obtain ⟨h4, _, _⟩ := hV; replace h4 : f 4 = _ := h4; first | exact want_no (t := 48) rfl (by kernel_rfl) rfl h4 rfl | exact want_undef (t := 48) rfl (by kernel_rfl) rfl h4))
                    all_goals first
                      | (refine Steps.pure (v := ?_) Keeps.refl rfl (fun f w' hR hV => ⟨?_, ?_⟩) ?_
                         rotate_left
                         · (obtain ⟨h4, _⟩ := hV; replace h4 : f 4 = _ := h4; exact want_yes (t := 48) rfl (by kernel_rfl) rfl h4)
                         · (obtain ⟨h4, _⟩ := hV; replace h4 : f 4 = _ := h4; obtain ⟨x0, x1, z0, z1⟩ := HX.out _ hR; go_simp; all_goals (try with_reducible rfl)))
                      | (refine Steps.skip rfl (fun f w' hR hV => ?_) ?_
                         · (obtain ⟨h4, _⟩ := hV; replace h4 : f 4 = _ := h4; first | exact want_no (t := 48) rfl (by kernel_rfl) rfl h4 rfl | exact want_undef (t := 48) rfl (by kernel_rfl) rfl h4))
                    all_goals first
                      | (refine Steps.pure (v := ?_) Keeps.refl rfl (fun f w' hR hV => ⟨?_, ?_⟩) ?_
                         rotate_left
                         · (obtain ⟨h4, _, _⟩ := hV; replace h4 : f 4 = _ := h4; exact want_yes (t := 48) rfl (by kernel_rfl) rfl h4)
                         · (obtain ⟨h4, h10, _⟩ := hV; replace h4 : f 4 = _ := h4; replace h10 : f 10 = _ := h10; obtain ⟨x0, x1, z0, z1⟩ := HX.out _ hR; go_simp; all_goals (try with_reducible rfl)))
                      | (refine Steps.skip rfl (fun f w' hR hV => ?_) ?_
                         · (obtain ⟨h4, _, _⟩ := hV; replace h4 : f 4 = _ := h4; first | exact want_no (t := 48) rfl (by kernel_rfl) rfl h4 rfl | exact want_undef (t := 48) rfl (by kernel_rfl) rfl h4))
                    all_goals first
                      | (refine Steps.pure (v := ?_) Keeps.refl rfl (fun f w' hR hV => ⟨?_, ?_⟩) ?_
                         rotate_left
                         · (obtain ⟨h4, _, _, _⟩ := hV; replace h4 : f 4 = _ := h4; exact want_yes (t := 48) rfl (by kernel_rfl) rfl h4)
                         · (obtain ⟨h4, h9, h11, _⟩ := hV; replace h4 : f 4 = _ := h4; replace h9 : f 9 = _ := h9; replace h11 : f 11 = _ := h11; obtain ⟨x0, x1, z0, z1⟩ := HX.out _ hR; go_simp; all_goals (try with_reducible rfl)))
                      | (refine Steps.skip rfl (fun f w' hR hV => ?_) ?_
                         · (obtain ⟨h4, _, _, _⟩ := hV; replace h4 : f 4 = _ := h4; first | exact want_no (t := 48) rfl (by kernel_rfl) rfl h4 rfl | exact want_undef (t := 48) rfl (by kernel_rfl) rfl h4))
                    all_goals first
                      | (refine Steps.pure (v := ?_) Keeps.refl rfl (fun f w' hR hV => ⟨?_, ?_⟩) ?_
                         rotate_left
                         · (obtain ⟨h4, _, _⟩ := hV; replace h4 : f 4 = _ := h4; exact want_yes (t := 48) rfl (by kernel_rfl) rfl h4)
                         · (obtain ⟨h4, h12, _⟩ := hV; replace h4 : f 4 = _ := h4; replace h12 : f 12 = _ := h12; obtain ⟨x0, x1, z0, z1⟩ := HX.out _ hR; go_simp; all_goals (try with_reducible rfl)))
                      | (refine Steps.skip rfl (fun f w' hR hV => ?_) ?_
                         · (obtain ⟨h4, _, _⟩ := hV; replace h4 : f 4 = _ := h4; first | exact want_no (t := 48) rfl (by kernel_rfl) rfl h4 rfl | exact want_undef (t := 48) rfl (by kernel_rfl) rfl h4))
                    all_goals first
                      | (refine Steps.pure (v := ?_) Keeps.refl rfl (fun f w' hR hV => ⟨?_, ?_⟩) ?_
                         rotate_left
                         · (obtain ⟨h13, _⟩ := hV; replace h13 : f 13 = _ := h13; exact want_yes (t := 57) rfl (by kernel_rfl) rfl h13)
                         · (obtain ⟨h13, _⟩ := hV; replace h13 : f 13 = _ := h13; obtain ⟨x0, x1, z0, z1⟩ := HX.out _ hR; go_simp; all_goals (try with_reducible rfl)))
                      | (refine Steps.skip rfl (fun f w' hR hV => ?_) ?_
                         · (obtain ⟨h13, _⟩ := hV; replace h13 : f 13 = _ := h13; first | exact want_no (t := 57) rfl (by kernel_rfl) rfl h13 rfl | exact want_undef (t := 57) rfl (by kernel_rfl) rfl h13))
                    all_goals first
                      | (refine Steps.pure (v := ?_) Keeps.refl rfl (fun f w' hR hV => ⟨?_, ?_⟩) ?_
                         rotate_left
                         · (obtain ⟨h13, _⟩ := hV; replace h13 : f 13 = _ := h13; exact want_yes (t := 57) rfl (by kernel_rfl) rfl h13)
                         · (obtain ⟨h13, _⟩ := hV; replace h13 : f 13 = _ := h13; obtain ⟨x0, x1, z0, z1⟩ := HX.out _ hR; go_simp; all_goals (try with_reducible rfl)))
                      | (refine Steps.skip rfl (fun f w' hR hV => ?_) ?_
                         · (obtain ⟨h13, _⟩ := hV; replace h13 : f 13 = _ := h13; first | exact want_no (t := 57) rfl (by kernel_rfl) rfl h13 rfl | exact want_undef (t := 57) rfl (by kernel_rfl) rfl h13))
                    all_goals first
                      | (refine Steps.pure (v := ?_) Keeps.refl rfl (fun f w' hR hV => ⟨?_, ?_⟩) ?_
                         rotate_left
                         · (obtain ⟨h13, _, _, _⟩ := hV; replace h13 : f 13 = _ := h13; exact want_yes (t := 57) rfl (by kernel_rfl) rfl h13)
                         · (obtain ⟨h13, h14, h15, _⟩ := hV; replace h13 : f 13 = _ := h13; replace h14 : f 14 = _ := h14; replace h15 : f 15 = _ := h15; obtain ⟨x0, x1, z0, z1⟩ := HX.out _ hR; go_simp; all_goals (try with_reducible rfl)))
                      | (refine Steps.skip rfl (fun f w' hR hV => ?_) ?_
                         · (obtain ⟨h13, _, _, _⟩ := hV; replace h13 : f 13 = _ := h13; first | exact want_no (t := 57) rfl (by kernel_rfl) rfl h13 rfl | exact want_undef (t := 57) rfl (by kernel_rfl) rfl h13))
                    all_goals first
                      | (refine Steps.pure (v := ?_) Keeps.refl rfl (fun f w' hR hV => ⟨?_, ?_⟩) ?_
                         rotate_left
                         · (obtain ⟨h13, _, _⟩ := hV; replace h13 : f 13 = _ := h13; exact want_yes (t := 57) rfl (by kernel_rfl) rfl h13)
                         · (obtain ⟨h13, h16, _⟩ := hV; replace h13 : f 13 = _ := h13; replace h16 : f 16 = _ := h16; obtain ⟨x0, x1, z0, z1⟩ := HX.out _ hR; go_simp; all_goals (try with_reducible rfl)))
                      | (refine Steps.skip rfl (fun f w' hR hV => ?_) ?_
                         · (obtain ⟨h13, _, _⟩ := hV; replace h13 : f 13 = _ := h13; first | exact want_no (t := 57) rfl (by kernel_rfl) rfl h13 rfl | exact want_undef (t := 57) rfl (by kernel_rfl) rfl h13))
                    all_goals first
                      | (refine Steps.pure (v := ?_) Keeps.refl rfl (fun f w' hR hV => ⟨?_, ?_⟩) ?_
                         rotate_left
                         · (obtain ⟨h13, _, _⟩ := hV; replace h13 : f 13 = _ := h13; exact want_yes (t := 57) rfl (by kernel_rfl) rfl h13)
                         · (obtain ⟨h13, h17, _⟩ := hV; replace h13 : f 13 = _ := h13; replace h17 : f 17 = _ := h17; obtain ⟨x0, x1, z0, z1⟩ := HX.out _ hR; go_simp; all_goals (try with_reducible rfl)))
                      | (refine Steps.skip rfl (fun f w' hR hV => ?_) ?_
                         · (obtain ⟨h13, _, _⟩ := hV; replace h13 : f 13 = _ := h13; first | exact want_no (t := 57) rfl (by kernel_rfl) rfl h13 rfl | exact want_undef (t := 57) rfl (by kernel_rfl) rfl h13))
                    all_goals first
                      | (refine Steps.pure (v := ?_) Keeps.refl rfl (fun f w' hR hV => ⟨?_, ?_⟩) ?_
                         rotate_left
                         · (obtain ⟨h13, _⟩ := hV; replace h13 : f 13 = _ := h13; exact want_yes (t := 57) rfl (by kernel_rfl) rfl h13)
                         · (obtain ⟨h13, _⟩ := hV; replace h13 : f 13 = _ := h13; obtain ⟨x0, x1, z0, z1⟩ := HX.out _ hR; go_simp; all_goals (try with_reducible rfl)))
                      | (refine Steps.skip rfl (fun f w' hR hV => ?_) ?_
                         · (obtain ⟨h13, _⟩ := hV; replace h13 : f 13 = _ := h13; first | exact want_no (t := 57) rfl (by kernel_rfl) rfl h13 rfl | exact want_undef (t := 57) rfl (by kernel_rfl) rfl h13))
                    all_goals first
                      | (refine Steps.pure (v := ?_) Keeps.refl rfl (fun f w' hR hV => ⟨?_, ?_⟩) ?_
                         rotate_left
                         · (obtain ⟨h13, _, _⟩ := hV; replace h13 : f 13 = _ := h13; exact want_yes (t := 57) rfl (by kernel_rfl) rfl h13)
                         · (obtain ⟨h13, h19, _⟩ := hV; replace h13 : f 13 = _ := h13; replace h19 : f 19 = _ := h19; obtain ⟨x0, x1, z0, z1⟩ := HX.out _ hR; go_simp; all_goals (try with_reducible rfl)))
                      | (refine Steps.skip rfl (fun f w' hR hV => ?_) ?_
                         · (obtain ⟨h13, _, _⟩ := hV; replace h13 : f 13 = _ := h13; first | exact want_no (t := 57) rfl (by kernel_rfl) rfl h13 rfl | exact want_undef (t := 57) rfl (by kernel_rfl) rfl h13))
                    all_goals first
                      | (refine Steps.pure (v := ?_) Keeps.refl rfl (fun f w' hR hV => ⟨?_, ?_⟩) ?_
                         rotate_left
                         · (obtain ⟨h13, _, _, _⟩ := hV; replace h13 : f 13 = _ := h13; exact want_yes (t := 57) rfl (by kernel_rfl) rfl h13)
                         · (obtain ⟨h13, h18, h20, _⟩ := hV; replace h13 : f 13 = _ := h13; replace h18 : f 18 = _ := h18; replace h20 : f 20 = _ := h20; obtain ⟨x0, x1, z0, z1⟩ := HX.out _ hR; go_simp; all_goals (try with_reducible rfl)))
                      | (refine Steps.skip rfl (fun f w' hR hV => ?_) ?_
                         · (obtain ⟨h13, _, _, _⟩ := hV; replace h13 : f 13 = _ := h13; first | exact want_no (t := 57) rfl (by kernel_rfl) rfl h13 rfl | exact want_undef (t := 57) rfl (by kernel_rfl) rfl h13))
                    all_goals first
                      | (refine Steps.pure (v := ?_) Keeps.refl rfl (fun f w' hR hV => ⟨?_, ?_⟩) ?_
                         rotate_left
                         · (obtain ⟨h13, _, _⟩ := hV; replace h13 : f 13 = _ := h13; exact want_yes (t := 57) rfl (by kernel_rfl) rfl h13)
                         · (obtain ⟨h13, h21, _⟩ := hV; replace h13 : f 13 = _ := h13; replace h21 : f 21 = _ := h21; obtain ⟨x0, x1, z0, z1⟩ := HX.out _ hR; go_simp; all_goals (try with_reducible rfl)))
                      | (refine Steps.skip rfl (fun f w' hR hV => ?_) ?_
                         · (obtain ⟨h13, _, _⟩ := hV; replace h13 : f 13 = _ := h13; first | exact want_no (t := 57) rfl (by kernel_rfl) rfl h13 rfl | exact want_undef (t := 57) rfl (by kernel_rfl) rfl h13))
                    all_goals first
                      | (refine Steps.pure (v := ?_) Keeps.refl rfl (fun f w' hR hV => ⟨?_, ?_⟩) ?_
                         rotate_left
                         · (obtain ⟨h22, _⟩ := hV; replace h22 : f 22 = _ := h22; exact want_yes (t := 66) rfl (by kernel_rfl) rfl h22)
                         · (obtain ⟨h22, _⟩ := hV; replace h22 : f 22 = _ := h22; obtain ⟨x0, x1, z0, z1⟩ := HX.out _ hR; go_simp; all_goals (try with_reducible rfl)))
                      | (refine Steps.skip rfl (fun f w' hR hV => ?_) ?_
                         · (obtain ⟨h22, _⟩ := hV; replace h22 : f 22 = _ := h22; first | exact want_no (t := 66) rfl (by kernel_rfl) rfl h22 rfl | exact want_undef (t := 66) rfl (by kernel_rfl) rfl h22))
                    all_goals first
                      | (refine Steps.pure (v := ?_) Keeps.refl rfl (fun f w' hR hV => ⟨?_, ?_⟩) ?_
                         rotate_left
                         · (obtain ⟨h22, _⟩ := hV; replace h22 : f 22 = _ := h22; exact want_yes (t := 66) rfl (by kernel_rfl) rfl h22)
                         · (obtain ⟨h22, _⟩ := hV; replace h22 : f 22 = _ := h22; obtain ⟨x0, x1, z0, z1⟩ := HX.out _ hR; go_simp; all_goals (try with_reducible rfl)))
                      | (refine Steps.skip rfl (fun f w' hR hV => ?_) ?_
                         · (obtain ⟨h22, _⟩ := hV; replace h22 : f 22 = _ := h22; first | exact want_no (t := 66) rfl (by kernel_rfl) rfl h22 rfl | exact want_undef (t := 66) rfl (by kernel_rfl) rfl h22))
                    all_goals first
                      | (refine Steps.pure (v := ?_) Keeps.refl rfl (fun f w' hR hV => ⟨?_, ?_⟩) ?_
                         rotate_left
                         · (obtain ⟨h22, _, _, _⟩ := hV; replace h22 : f 22 = _ := h22; exact want_yes (t := 66) rfl (by kernel_rfl) rfl h22)
                         · (obtain ⟨h22, h23, h24, _⟩ := hV; replace h22 : f 22 = _ := h22; replace h23 : f 23 = _ := h23; replace h24 : f 24 = _ := h24; obtain ⟨x0, x1, z0, z1⟩ := HX.out _ hR; go_simp; all_goals (try with_reducible rfl)))
                      | (refine Steps.skip rfl (fun f w' hR hV => ?_) ?_
                         · (obtain ⟨h22, _, _, _⟩ := hV; replace h22 : f 22 = _ := h22; first | exact want_no (t := 66) rfl (by kernel_rfl) rfl h22 rfl | exact want_undef (t := 66) rfl (by kernel_rfl) rfl h22))
                    all_goals first
                      | (refine Steps.pure (v := ?_) Keeps.refl rfl (fun f w' hR hV => ⟨?_, ?_⟩) ?_
                         rotate_left
                         · (obtain ⟨h22, _, _⟩ := hV; replace h22 : f 22 = _ := h22; exact want_yes (t := 66) rfl (by kernel_rfl) rfl h22)
                         · (obtain ⟨h22, h25, _⟩ := hV; replace h22 : f 22 = _ := h22; replace h25 : f 25 = _ := h25; obtain ⟨x0, x1, z0, z1⟩ := HX.out _ hR; go_simp; all_goals (try with_reducible rfl)))
                      | (refine Steps.skip rfl (fun f w' hR hV => ?_) ?_
                         · (obtain ⟨h22, _, _⟩ := hV; replace h22 : f 22 = _ := h22; first | exact want_no (t := 66) rfl (by kernel_rfl) rfl h22 rfl | exact want_undef (t := 66) rfl (by kernel_rfl) rfl h22))
                    all_goals first
                      | (refine Steps.pure (v := ?_) Keeps.refl rfl (fun f w' hR hV => ⟨?_, ?_⟩) ?_
                         rotate_left
                         · (obtain ⟨h22, _, _⟩ := hV; replace h22 : f 22 = _ := h22; exact want_yes (t := 66) rfl (by kernel_rfl) rfl h22)
                         · (obtain ⟨h22, h26, _⟩ := hV; replace h22 : f 22 = _ := h22; replace h26 : f 26 = _ := h26; obtain ⟨x0, x1, z0, z1⟩ := HX.out _ hR; go_simp; all_goals (try with_reducible rfl)))
                      | (refine Steps.skip rfl (fun f w' hR hV => ?_) ?_
                         · (obtain ⟨h22, _, _⟩ := hV; replace h22 : f 22 = _ := h22; first | exact want_no (t := 66) rfl (by kernel_rfl) rfl h22 rfl | exact want_undef (t := 66) rfl (by kernel_rfl) rfl h22))
                    all_goals first
                      | (refine Steps.pure (v := ?_) Keeps.refl rfl (fun f w' hR hV => ⟨?_, ?_⟩) ?_
                         rotate_left
                         · (obtain ⟨h22, _⟩ := hV; replace h22 : f 22 = _ := h22; exact want_yes (t := 66) rfl (by kernel_rfl) rfl h22)
                         · (obtain ⟨h22, _⟩ := hV; replace h22 : f 22 = _ := h22; obtain ⟨x0, x1, z0, z1⟩ := HX.out _ hR; go_simp; all_goals (try with_reducible rfl)))
                      | (refine Steps.skip rfl (fun f w' hR hV => ?_) ?_
                         · (obtain ⟨h22, _⟩ := hV; replace h22 : f 22 = _ := h22; first | exact want_no (t := 66) rfl (by kernel_rfl) rfl h22 rfl | exact want_undef (t := 66) rfl (by kernel_rfl) rfl h22))
                    all_goals first
                      | (refine Steps.pure (v := ?_) Keeps.refl rfl (fun f w' hR hV => ⟨?_, ?_⟩) ?_
                         rotate_left
                         · (obtain ⟨h22, _, _⟩ := hV; replace h22 : f 22 = _ := h22; exact want_yes (t := 66) rfl (by kernel_rfl) rfl h22)
                         · (obtain ⟨h22, h28, _⟩ := hV; replace h22 : f 22 = _ := h22; replace h28 : f 28 = _ := h28; obtain ⟨x0, x1, z0, z1⟩ := HX.out _ hR; go_simp; all_goals (try with_reducible rfl)))
                      | (refine Steps.skip rfl (fun f w' hR hV => ?_) ?_
                         · (obtain ⟨h22, _, _⟩ := hV; replace h22 : f 22 = _ := h22; first | exact want_no (t := 66) rfl (by kernel_rfl) rfl h22 rfl | exact want_undef (t := 66) rfl (by kernel_rfl) rfl h22))
                    all_goals first
                      | (refine Steps.pure (v := ?_) Keeps.refl rfl (fun f w' hR hV => ⟨?_, ?_⟩) ?_
                         rotate_left
                         · (obtain ⟨h22, _, _, _⟩ := hV; replace h22 : f 22 = _ := h22; exact want_yes (t := 66) rfl (by kernel_rfl) rfl h22)
                         · (obtain ⟨h22, h27, h29, _⟩ := hV; replace h22 : f 22 = _ := h22; replace h27 : f 27 = _ := h27; replace h29 : f 29 = _ := h29; obtain ⟨x0, x1, z0, z1⟩ := HX.out _ hR; go_simp; all_goals (try with_reducible rfl)))
                      | (refine Steps.skip rfl (fun f w' hR hV => ?_) ?_
                         · (obtain ⟨h22, _, _, _⟩ := hV; replace h22 : f 22 = _ := h22; first | exact want_no (t := 66) rfl (by kernel_rfl) rfl h22 rfl | exact want_undef (t := 66) rfl (by kernel_rfl) rfl h22))
                    all_goals first
                      | (refine Steps.pure (v := ?_) Keeps.refl rfl (fun f w' hR hV => ⟨?_, ?_⟩) ?_
                         rotate_left
                         · (obtain ⟨h13, _, _, _⟩ := hV; replace h13 : f 13 = _ := h13; exact want_yes (t := 57) rfl (by kernel_rfl) rfl h13)
                         · (obtain ⟨h13, h22, h30, _⟩ := hV; replace h13 : f 13 = _ := h13; replace h22 : f 22 = _ := h22; replace h30 : f 30 = _ := h30; obtain ⟨x0, x1, z0, z1⟩ := HX.out _ hR; go_simp; all_goals (try with_reducible rfl)))
                      | (refine Steps.skip rfl (fun f w' hR hV => ?_) ?_
                         · (obtain ⟨h13, _, _, _⟩ := hV; replace h13 : f 13 = _ := h13; first | exact want_no (t := 57) rfl (by kernel_rfl) rfl h13 rfl | exact want_undef (t := 57) rfl (by kernel_rfl) rfl h13))
                    all_goals first
                      | (refine Steps.pure (v := ?_) Keeps.refl rfl (fun f w' hR hV => ⟨?_, ?_⟩) ?_
                         rotate_left
                         · (obtain ⟨h4, _, _, _⟩ := hV; replace h4 : f 4 = _ := h4; exact want_yes (t := 48) rfl (by kernel_rfl) rfl h4)
                         · (obtain ⟨h4, h13, h31, _⟩ := hV; replace h4 : f 4 = _ := h4; replace h13 : f 13 = _ := h13; replace h31 : f 31 = _ := h31; obtain ⟨x0, x1, z0, z1⟩ := HX.out _ hR; go_simp; all_goals (try with_reducible rfl)))
                      | (refine Steps.skip rfl (fun f w' hR hV => ?_) ?_
                         · (obtain ⟨h4, _, _, _⟩ := hV; replace h4 : f 4 = _ := h4; first | exact want_no (t := 48) rfl (by kernel_rfl) rfl h4 rfl | exact want_undef (t := 48) rfl (by kernel_rfl) rfl h4))
                    all_goals (
                      refine Steps.pure (v := ?_) Keeps.refl rfl (fun f w' hR hV => ⟨?_, ?_⟩) ?_
                      rotate_left
                      · (rfl)
                      · (obtain ⟨h4, h32, _⟩ := hV; replace h4 : f 4 = _ := h4; replace h32 : f 32 = _ := h32; obtain ⟨x0, x1, z0, z1⟩ := HX.out _ hR; go_simp; all_goals (try with_reducible rfl)))
                    all_goals (refine Steps.done [33] (by kernel_rfl) rfl (fun f wq hR hV => ?_); obtain ⟨h33, _⟩ := hV; replace h33 : f 33 = _ := h33; simp only [h33])
                    go_wp2_with fail
                    go_meet
                    exact ⟨rfl, Lib.hid ((Keeps.refl wd).drew.trans hR)⟩
                  · have ea : decide (q.a < x.a) = false := by simpa using ha
                    by_cases hb : q.a = x.a
                    · have eb : (q.a == x.a) = true := by simpa using hb
                      have hbt : bq = decide (q.b < x.b) := by
                        rw [hbq]
                        refine decide_eq_decide.2 ⟨fun ⟨_, h⟩ => ?_, fun h => ⟨hlt2, by rw [hq]; exact .inr ⟨hb, h⟩⟩⟩
                        rw [hq] at h
                        rcases h with h | h
                        · exact absurd h ha
                        · exact h.2
                      clear hbq HBQ hq ha hb
                      subst hbt
                      go_wp2_with fail
                      refine wp_region_steps (A := ?_) Keeps [some 44, some 45, some 46, some 47, some 48, some 49, some 50, some 51, some 52, some 53, some 54, some 55, some 56, some 57, some 58, some 59, some 60, some 61, some 62, some 63, some 64, some 65, some 66, some 67, some 68, some 69, some 70, some 71, some 72, some 73, some 74, some 75, some 76, some 77] [[], [], [1], [0, 2], [3], [4], [4], [4, 5, 6], [4, 7], [4, 8], [4], [4, 10], [4, 9, 11], [4, 12], [13], [13], [13, 14, 15], [13, 16], [13, 17], [13], [13, 19], [13, 18, 20], [13, 21], [22], [22], [22, 23, 24], [22, 25], [22, 26], [22], [22, 28], [22, 27, 29], [13, 22, 30], [4, 13, 31], [4, 32]] 34 (by kernel_rfl) (by kernel_rfl) (by kernel_rfl) (by kernel_rfl) (by kernel_rfl) (by kernel_rfl) Keeps.refl (fun _ _ _ => Keeps.trans) ?_ ?_
                      rotate_left
                      · intro f; simp only [putL, Act.put, List.setIfInBounds_toArray, List.set_cons_zero, List.set_cons_succ, Nat.zero_add, Nat.reduceAdd]; exact rfl
                      refine Steps.pure (v := ?_) Keeps.refl rfl (fun f w' hR hV => ⟨?_, ?_⟩) ?_
                      rotate_left
                      · (rfl)
                      · (clear hV; obtain ⟨x0, x1, z0, z1⟩ := HX.out _ hR; go_simp; all_goals (try with_reducible rfl))
                      refine Steps.pure (v := ?_) Keeps.refl rfl (fun f w' hR hV => ⟨?_, ?_⟩) ?_
                      rotate_left
                      · (rfl)
                      · (clear hV; obtain ⟨x0, x1, z0, z1⟩ := HX.out _ hR; go_simp; all_goals (try with_reducible rfl))
                      refine Steps.pure (v := ?_) Keeps.refl rfl (fun f w' hR hV => ⟨?_, ?_⟩) ?_
                      rotate_left
                      · (rfl)
                      · (obtain ⟨h1, _⟩ := hV; replace h1 : f 1 = _ := h1; obtain ⟨x0, x1, z0, z1⟩ := HX.out _ hR; go_simp; all_goals (try with_reducible rfl))
                      refine Steps.pure (v := ?_) Keeps.refl rfl (fun f w' hR hV => ⟨?_, ?_⟩) ?_
                      rotate_left
                      · (rfl)
                      · (obtain ⟨h0, h2, _⟩ := hV; replace h0 : f 0 = _ := h0; replace h2 : f 2 = _ := h2; obtain ⟨x0, x1, z0, z1⟩ := HX.out _ hR; go_simp; all_goals (try with_reducible rfl))
                      refine Steps.pure (v := ?_) Keeps.refl rfl (fun f w' hR hV => ⟨?_, ?_⟩) ?_
                      rotate_left
                      · (rfl)
                      · (obtain ⟨h3, _⟩ := hV; replace h3 : f 3 = _ := h3; obtain ⟨x0, x1, z0, z1⟩ := HX.out _ hR; go_simp; all_goals (try with_reducible rfl))
                      all_goals first
                        | (refine Steps.pure (v := ?_) Keeps.refl rfl (fun f w' hR hV => ⟨?_, ?_⟩) ?_
                           rotate_left
                           · (obtain ⟨h4, _⟩ := hV; replace h4 : f 4 = _ := h4; exact want_yes (t := 48) rfl (by kernel_rfl) rfl h4)
                           · (obtain ⟨h4, _⟩ := hV; replace h4 : f 4 = _ := h4; obtain ⟨x0, x1, z0, z1⟩ := HX.out _ hR; go_simp; all_goals (try with_reducible rfl)))
                        | (refine Steps.skip rfl (fun f w' hR hV => ?_) ?_
                           · (obtain ⟨h4, _⟩ := hV; replace h4 : f 4 = _ := h4; first | exact want_no (t := 48) rfl (by kernel_rfl) rfl h4 rfl | exact want_undef (t := 48) rfl (by kernel_rfl) rfl h4))
                      all_goals first
                        | (refine Steps.pure (v := ?_) Keeps.refl rfl (fun f w' hR hV => ⟨?_, ?_⟩) ?_
                           rotate_left
                           · (obtain ⟨h4, _⟩ := hV; replace h4 : f 4 = _ := h4; exact want_yes (t := 48) rfl (by kernel_rfl) rfl h4)
                           · (obtain ⟨h4, _⟩ := hV; replace h4 : f 4 = _ := h4; obtain ⟨x0, x1, z0, z1⟩ := HX.out _ hR; go_simp; all_goals (try with_reducible rfl)))
                        | (refine Steps.skip rfl (fun f w' hR hV => ?_) ?_
                           · (obtain ⟨h4, _⟩ := hV; replace h4 : f 4 = _ := h4; first | exact want_no (t := 48) rfl (by kernel_rfl) rfl h4 rfl | exact want_undef (t := 48) rfl (by kernel_rfl) rfl h4))
                      all_goals first
                        | (refine Steps.pure (v := ?_) Keeps.refl rfl (fun f w' hR hV => ⟨?_, ?_⟩) ?_
                           rotate_left
                           · (obtain ⟨h4, _, _, _⟩ := hV; replace h4 : f 4 = _ := h4; exact want_yes (t := 48) rfl (by kernel_rfl) rfl h4)
                           · (obtain ⟨h4, h5, h6, _⟩ := hV; replace h4 : f 4 = _ := h4; replace h5 : f 5 = _ := h5; replace h6 : f 6 = _ := h6; obtain ⟨x0, x1, z0, z1⟩ := HX.out _ hR; go_simp; all_goals (try with_reducible rfl)))
                        | (refine Steps.skip rfl (fun f w' hR hV => ?_) ?_
                           · (obtain ⟨h4, _, _, _⟩ := hV; replace h4 : f 4 = _ := h4; first | exact want_no (t := 48) rfl (by kernel_rfl) rfl h4 rfl | exact want_undef (t := 48) rfl (by kernel_rfl) rfl h4))
                      all_goals first
                        | (refine Steps.pure (v := ?_) Keeps.refl rfl (fun f w' hR hV => ⟨?_, ?_⟩) ?_
                           rotate_left
                           · (obtain ⟨h4, _, _⟩ := hV; replace h4 : f 4 = _ := h4; exact want_yes (t := 48) rfl (by kernel_rfl) rfl h4)
                           · (obtain ⟨h4, h7, _⟩ := hV; replace h4 : f 4 = _ := h4; replace h7 : f 7 = _ := h7; obtain ⟨x0, x1, z0, z1⟩ := HX.out _ hR; go_simp; all_goals (try with_reducible rfl)))
                        | (refine Steps.skip rfl (fun f w' hR hV => ?_) ?_
                           · (obtain ⟨h4, _, _⟩ := hV; replace h4 : f 4 = _ := h4; first | exact want_no (t := 48) rfl (by kernel_rfl) rfl h4 rfl | exact want_undef (t := 48) rfl (by kernel_rfl) rfl h4))
                      all_goals first
                        | (refine Steps.pure (v := ?_) Keeps.refl rfl (fun f w' hR hV => ⟨?_, ?_⟩) ?_
                           rotate_left
                           · (obtain ⟨h4, _, _⟩ := hV; replace h4 : f 4 = _ := h4; exact want_yes (t := 48) rfl (by kernel_rfl) rfl h4)
                           · (obtain ⟨h4, h8, _⟩ := hV; replace h4 : f 4 = _ := h4; replace h8 : f 8 = _ := h8; obtain ⟨x0, x1, z0, z1⟩ := HX.out _ hR; go_simp; all_goals (try with_reducible rfl)))
                        | (refine Steps.skip rfl (fun f w' hR hV => ?_) ?_
                           · (obtain ⟨h4, _, _⟩ := hV; replace h4 : f 4 = _ := h4; first | exact want_no (t := 48) rfl (by kernel_rfl) rfl h4 rfl | exact want_undef (t := 48) rfl (by kernel_rfl) rfl h4))
                      all_goals first
                        | (refine Steps.pure (v := ?_) Keeps.refl rfl (fun f w' hR hV => ⟨?_, ?_⟩) ?_
                           rotate_left
                           · (obtain ⟨h4, _⟩ := hV; replace h4 : f 4 = _ := h4; exact want_yes (t := 48) rfl (by kernel_rfl) rfl h4)
                           · (obtain ⟨h4, _⟩ := hV; replace h4 : f 4 = _ := h4; obtain ⟨x0, x1, z0, z1⟩ := HX.out _ hR; go_simp; all_goals (try with_reducible rfl)))
                        | (refine Steps.skip rfl (fun f w' hR hV => ?_) ?_
                           · (obtain ⟨h4, _⟩ := hV; replace h4 : f 4 = _ := h4; first | exact want_no (t := 48) rfl (by kernel_rfl) rfl h4 rfl | exact want_undef (t := 48) rfl (by kernel_rfl) rfl h4))
                      all_goals first
                        | (refine Steps.pure (v := ?_) Keeps.refl rfl (fun f w' hR hV => ⟨?_, ?_⟩) ?_
                           rotate_left
                           · (obtain ⟨h4, _, _⟩ := hV; replace h4 : f 4 = _ := h4; exact want_yes (t := 48) rfl (by kernel_rfl) rfl h4)
                           · (obtain ⟨h4, h10, _⟩ := hV; replace h4 : f 4 = _ := h4; replace h10 : f 10 = _ := h10; obtain ⟨x0, x1, z0, z1⟩ := HX.out _ hR; go_simp; all_goals (try with_reducible rfl)))
                        | (refine Steps.skip rfl (fun f w' hR hV => ?_) ?_
                           · (obtain ⟨h4, _, _⟩ := hV; replace h4 : f 4 = _ := h4; first | exact want_no (t := 48) rfl (by kernel_rfl) rfl h4 rfl | exact want_undef (t := 48) rfl (by kernel_rfl) rfl h4))
                      all_goals first
                        | (refine Steps.pure (v := ?_) Keeps.refl rfl (fun f w' hR hV => ⟨?_, ?_⟩) ?_
                           rotate_left
                           · (obtain ⟨h4, _, _, _⟩ := hV; replace h4 : f 4 = _ := h4; exact want_yes (t := 48) rfl (by kernel_rfl) rfl h4)
                           · (obtain ⟨h4, h9, h11, _⟩ := hV; replace h4 : f 4 = _ := h4; replace h9 : f 9 = _ := h9; replace h11 : f 11 = _ := h11; obtain ⟨x0, x1, z0, z1⟩ := HX.out _ hR; go_simp; all_goals (try with_reducible rfl)))
                        | (refine Steps.skip rfl (fun f w' hR hV => ?_) ?_
                           · (obtain ⟨h4, _, _, _⟩ := hV; replace h4 : f 4 = _ := h4; first | exact want_no (t := 48) rfl (by kernel_rfl) rfl h4 rfl | exact want_undef (t := 48) rfl (by kernel_rfl) rfl h4))
                      all_goals first
                        | (refine Steps.pure (v := ?_) Keeps.refl rfl (fun f w' hR hV => ⟨?_, ?_⟩) ?_
                           rotate_left
                           · (obtain ⟨h4, _, _⟩ := hV; replace h4 : f 4 = _ := h4; exact want_yes (t := 48) rfl (by kernel_rfl) rfl h4)
                           · (obtain ⟨h4, h12, _⟩ := hV; replace h4 : f 4 = _ := h4; replace h12 : f 12 = _ := h12; obtain ⟨x0, x1, z0, z1⟩ := HX.out _ hR; go_simp; all_goals (try with_reducible rfl)))
                        | (refine Steps.skip rfl (fun f w' hR hV => ?_) ?_
                           · (obtain ⟨h4, _, _⟩ := hV; replace h4 : f 4 = _ := h4; first | exact want_no (t := 48) rfl (by kernel_rfl) rfl h4 rfl | exact want_undef (t := 48) rfl (by kernel_rfl) rfl h4))
                      all_goals first
                        | (refine Steps.pure (v := ?_) Keeps.refl rfl (fun f w' hR hV => ⟨?_, ?_⟩) ?_
                           rotate_left
                           · (obtain ⟨h13, _⟩ := hV; replace h13 : f 13 = _ := h13; exact want_yes (t := 57) rfl (by kernel_rfl) rfl h13)
                           · (obtain ⟨h13, _⟩ := hV; replace h13 : f 13 = _ := h13; obtain ⟨x0, x1, z0, z1⟩ := HX.out _ hR; go_simp; all_goals (try with_reducible rfl)))
                        | (refine Steps.skip rfl (fun f w' hR hV => ?_) ?_
                           · (obtain ⟨h13, _⟩ := hV; replace h13 : f 13 = _ := h13; first | exact want_no (t := 57) rfl (by kernel_rfl) rfl h13 rfl | exact want_undef (t := 57) rfl (by kernel_rfl) rfl h13))
                      all_goals first
                        | (refine Steps.pure (v := ?_) Keeps.refl rfl (fun f w' hR hV => ⟨?_, ?_⟩) ?_
                           rotate_left
                           · (obtain ⟨h13, _⟩ := hV; replace h13 : f 13 = _ := h13; exact want_yes (t := 57) rfl (by kernel_rfl) rfl h13)
                           · (obtain ⟨h13, _⟩ := hV; replace h13 : f 13 = _ := h13; obtain ⟨x0, x1, z0, z1⟩ := HX.out _ hR; go_simp; all_goals (try with_reducible rfl)))
                        | (refine Steps.skip rfl (fun f w' hR hV => ?_) ?_
                           · (obtain ⟨h13, _⟩ := hV; replace h13 : f 13 = _ := h13; first | exact want_no (t := 57) rfl (by kernel_rfl) rfl h13 rfl | exact want_undef (t := 57) rfl (by kernel_rfl) rfl h13))
                      all_goals first
                        | (refine Steps.pure (v := ?_) Keeps.refl rfl (fun f w' hR hV => ⟨?_, ?_⟩) ?_
                           rotate_left
                           · (obtain ⟨h13, _, _, _⟩ := hV; replace h13 : f 13 = _ := h13; exact want_yes (t := 57) rfl (by kernel_rfl) rfl h13)
                           · (obtain ⟨h13, h14, h15, _⟩ := hV; replace h13 : f 13 = _ := h13; replace h14 : f 14 = _ := h14; replace h15 : f 15 = _ := h15; obtain ⟨x0, x1, z0, z1⟩ := HX.out _ hR; go_simp; all_goals (try with_reducible rfl)))
                        | (refine Steps.skip rfl (fun f w' hR hV => ?_) ?_
                           · (obtain ⟨h13, _, _, _⟩ := hV; replace h13 : f 13 = _ := h13; first | exact want_no (t := 57) rfl (by kernel_rfl) rfl h13 rfl | exact want_undef (t := 57) rfl (by kernel_rfl) rfl h13))
                      all_goals first
                        | (refine Steps.pure (v := ?_) Keeps.refl rfl (fun f w' hR hV => ⟨?_, ?_⟩) ?_
                           rotate_left
                           · (obtain ⟨h13, _, _⟩ := hV; replace h13 : f 13 = _ := h13; exact want_yes (t := 57) rfl (by kernel_rfl) rfl h13)
                           · (obtain ⟨h13, h16, _⟩ := hV; replace h13 : f 13 = _ := h13; replace h16 : f 16 = _ := h16; obtain ⟨x0, x1, z0, z1⟩ := HX.out _ hR; go_simp; all_goals (try with_reducible rfl)))
                        | (refine Steps.skip rfl (fun f w' hR hV => ?_) ?_
                           · (obtain ⟨h13, _, _⟩ := hV; replace h13 : f 13 = _ := h13; first | exact want_no (t := 57) rfl (by kernel_rfl) rfl h13 rfl | exact want_undef (t := 57) rfl (by kernel_rfl) rfl h13))
                      all_goals first
                        | (refine Steps.pure (v := ?_) Keeps.refl rfl (fun f w' hR hV => ⟨?_, ?_⟩) ?_
                           rotate_left
                           · (obtain ⟨h13, _, _⟩ := hV; replace h13 : f 13 = _ := h13; exact want_yes (t := 57) rfl (by kernel_rfl) rfl h13)
                           · (obtain ⟨h13, h17, _⟩ := hV; replace h13 : f 13 = _ := h13; replace h17 : f 17 = _ := h17; obtain ⟨x0, x1, z0, z1⟩ := HX.out _ hR; go_simp; all_goals (try with_reducible rfl)))
                        | (refine Steps.skip rfl (fun f w' hR hV => ?_) ?_
                           · (obtain ⟨h13, _, _⟩ := hV; replace h13 : f 13 = _ := h13; first | exact want_no (t := 57) rfl (by kernel_rfl) rfl h13 rfl | exact want_undef (t := 57) rfl (by kernel_rfl) rfl h13))
                      all_goals first
                        | (refine Steps.pure (v := ?_) Keeps.refl rfl (fun f w' hR hV => ⟨?_, ?_⟩) ?_
                           rotate_left
                           · (obtain ⟨h13, _⟩ := hV; replace h13 : f 13 = _ := h13; exact want_yes (t := 57) rfl (by kernel_rfl) rfl h13)
                           · (obtain ⟨h13, _⟩ := hV; replace h13 : f 13 = _ := h13; obtain ⟨x0, x1, z0, z1⟩ := HX.out _ hR; go_simp; all_goals (try with_reducible rfl)))
                        | (refine Steps.skip rfl (fun f w' hR hV => ?_) ?_
                           · (obtain ⟨h13, _⟩ := hV; replace h13 : f 13 = _ := h13; first | exact want_no (t := 57) rfl (by kernel_rfl) rfl h13 rfl | exact want_undef (t := 57) rfl (by kernel_rfl) rfl h13))
                      all_goals first
                        | (refine Steps.pure (v := ?_) Keeps.refl rfl (fun f w' hR hV => ⟨?_, ?_⟩) ?_
                           rotate_left
                           · (obtain ⟨h13, _, _⟩ := hV; replace h13 : f 13 = _ := h13; exact want_yes (t := 57) rfl (by kernel_rfl) rfl h13)
                           · (obtain ⟨h13, h19, _⟩ := hV; replace h13 : f 13 = _ := h13; replace h19 : f 19 = _ := h19; obtain ⟨x0, x1, z0, z1⟩ := HX.out _ hR; go_simp; all_goals (try with_reducible rfl)))
                        | (refine Steps.skip rfl (fun f w' hR hV => ?_) ?_
                           · (obtain ⟨h13, _, _⟩ := hV; replace h13 : f 13 = _ := h13; first | exact want_no (t := 57) rfl (by kernel_rfl) rfl h13 rfl | exact want_undef (t := 57) rfl (by kernel_rfl) rfl h13))
                      all_goals first
                        | (refine Steps.pure (v := ?_) Keeps.refl rfl (fun f w' hR hV => ⟨?_, ?_⟩) ?_
                           rotate_left
                           · (obtain ⟨h13, _, _, _⟩ := hV; replace h13 : f 13 = _ := h13; exact want_yes (t := 57) rfl (by kernel_rfl) rfl h13)
                           · (obtain ⟨h13, h18, h20, _⟩ := hV; replace h13 : f 13 = _ := h13; replace h18 : f 18 = _ := h18; replace h20 : f 20 = _ := h20; obtain ⟨x0, x1, z0, z1⟩ := HX.out _ hR; go_simp; all_goals (try with_reducible rfl)))
                        | (refine Steps.skip rfl (fun f w' hR hV => ?_) ?_
                           · (obtain ⟨h13, _, _, _⟩ := hV; replace h13 : f 13 = _ := h13; first | exact want_no (t := 57) rfl (by kernel_rfl) rfl h13 rfl | exact want_undef (t := 57) rfl (by kernel_rfl) rfl h13))
                      all_goals first
                        | (refine Steps.pure (v := ?_) Keeps.refl rfl (fun f w' hR hV => ⟨?_, ?_⟩) ?_
                           rotate_left
                           · (obtain ⟨h13, _, _⟩ := hV; replace h13 : f 13 = _ := h13; exact want_yes (t := 57) rfl (by kernel_rfl) rfl h13)
                           · (obtain ⟨h13, h21, _⟩ := hV; replace h13 : f 13 = _ := h13; replace h21 : f 21 = _ := h21; obtain ⟨x0, x1, z0, z1⟩ := HX.out _ hR; go_simp; all_goals (try with_reducible rfl)))
                        | (refine Steps.skip rfl (fun f w' hR hV => ?_) ?_
                           · (obtain ⟨h13, _, _⟩ := hV; replace h13 : f 13 = _ := h13; first | exact want_no (t := 57) rfl (by kernel_rfl) rfl h13 rfl | exact want_undef (t := 57) rfl (by kernel_rfl) rfl h13))
                      all_goals first
                        | (refine Steps.pure (v := ?_) Keeps.refl rfl (fun f w' hR hV => ⟨?_, ?_⟩) ?_
                           rotate_left
                           · (obtain ⟨h22, _⟩ := hV; replace h22 : f 22 = _ := h22; exact want_yes (t := 66) rfl (by kernel_rfl) rfl h22)
                           · (obtain ⟨h22, _⟩ := hV; replace h22 : f 22 = _ := h22; obtain ⟨x0, x1, z0, z1⟩ := HX.out _ hR; go_simp; all_goals (try with_reducible rfl)))
                        | (refine Steps.skip rfl (fun f w' hR hV => ?_) ?_
                           · (obtain ⟨h22, _⟩ := hV; replace h22 : f 22 = _ := h22; first | exact want_no (t := 66) rfl (by kernel_rfl) rfl h22 rfl | exact want_undef (t := 66) rfl (by kernel_rfl) rfl h22))
                      all_goals first
                        | (refine Steps.pure (v := ?_) Keeps.refl rfl (fun f w' hR hV => ⟨?_, ?_⟩) ?_
                           rotate_left
                           · (obtain ⟨h22, _⟩ := hV; replace h22 : f 22 = _ := h22; exact want_yes (t := 66) rfl (by kernel_rfl) rfl h22)
                           · (obtain ⟨h22, _⟩ := hV; replace h22 : f 22 = _ := h22; obtain ⟨x0, x1, z0, z1⟩ := HX.out _ hR; go_simp; all_goals (try with_reducible rfl)))
                        | (refine Steps.skip rfl (fun f w' hR hV => ?_) ?_
                           · (obtain ⟨h22, _⟩ := hV; replace h22 : f 22 = _ := h22; first | exact want_no (t := 66) rfl (by kernel_rfl) rfl h22 rfl | exact want_undef (t := 66) rfl (by kernel_rfl) rfl h22))
                      all_goals first
                        | (refine Steps.pure (v := ?_) Keeps.refl rfl (fun f w' hR hV => ⟨?_, ?_⟩) ?_
                           rotate_left
                           · (obtain ⟨h22, _, _, _⟩ := hV; replace h22 : f 22 = _ := h22; exact want_yes (t := 66) rfl (by kernel_rfl) rfl h22)
                           · (obtain ⟨h22, h23, h24, _⟩ := hV; replace h22 : f 22 = _ := h22; replace h23 : f 23 = _ := h23; replace h24 : f 24 = _ := h24; obtain ⟨x0, x1, z0, z1⟩ := HX.out _ hR; go_simp; all_goals (try with_reducible rfl)))
                        | (refine Steps.skip rfl (fun f w' hR hV => ?_) ?_
                           · (obtain ⟨h22, _, _, _⟩ := hV; replace h22 : f 22 = _ := h22; first | exact want_no (t := 66) rfl (by kernel_rfl) rfl h22 rfl | exact want_undef (t := 66) rfl (by kernel_rfl) rfl h22))
                      all_goals first
                        | (refine Steps.pure (v := ?_) Keeps.refl rfl (fun f w' hR hV => ⟨?_, ?_⟩) ?_
                           rotate_left
                           · (obtain ⟨h22, _, _⟩ := hV; replace h22 : f 22 = _ := h22; exact want_yes (t := 66) rfl (by kernel_rfl) rfl h22)
                           · (obtain ⟨h22, h25, _⟩ := hV; replace h22 : f 22 = _ := h22; replace h25 : f 25 = _ := h25; obtain ⟨x0, x1, z0, z1⟩ := HX.out _ hR; go_simp; all_goals (try with_reducible rfl)))
                        | (refine Steps.skip rfl (fun f w' hR hV => ?_) ?_
                           · (obtain ⟨h22, _, _⟩ := hV; replace h22 : f 22 = _ := h22; first | exact want_no (t := 66) rfl (by kernel_rfl) rfl h22 rfl | exact want_undef (t := 66) rfl (by kernel_rfl) rfl h22))
                      all_goals first
                        | (refine Steps.pure (v := ?_) Keeps.refl rfl (fun f w' hR hV => ⟨?_, ?_⟩) ?_
                           rotate_left
                           · (obtain ⟨h22, _, _⟩ := hV; replace h22 : f 22 = _ := h22; exact want_yes (t := 66) rfl (by kernel_rfl) rfl h22)
                           · (obtain ⟨h22, h26, _⟩ := hV; replace h22 : f 22 = _ := h22; replace h26 : f 26 = _ := h26; obtain ⟨x0, x1, z0, z1⟩ := HX.out _ hR; go_simp; all_goals (try with_reducible rfl)))
                        | (refine Steps.skip rfl (fun f w' hR hV => ?_) ?_
                           · (obtain ⟨h22, _, _⟩ := hV; replace h22 : f 22 = _ := h22; first | exact want_no (t := 66) rfl (by kernel_rfl) rfl h22 rfl | exact want_undef (t := 66) rfl (by kernel_rfl) rfl h22))
                      all_goals first
                        | (refine Steps.pure (v := ?_) Keeps.refl rfl (fun f w' hR hV => ⟨?_, ?_⟩) ?_
                           rotate_left
                           · (obtain ⟨h22, _⟩ := hV; replace h22 : f 22 = _ := h22; exact want_yes (t := 66) rfl (by kernel_rfl) rfl h22)
                           · (obtain ⟨h22, _⟩ := hV; replace h22 : f 22 = _ := h22; obtain ⟨x0, x1, z0, z1⟩ := HX.out _ hR; go_simp; all_goals (try with_reducible rfl)))
                        | (refine Steps.skip rfl (fun f w' hR hV => ?_) ?_
                           · (obtain ⟨h22, _⟩ := hV; replace h22 : f 22 = _ := h22; first | exact want_no (t := 66) rfl (by kernel_rfl) rfl h22 rfl | exact want_undef (t := 66) rfl (by kernel_rfl) rfl h22))
                      all_goals first
                        | (refine Steps.pure (v := ?_) Keeps.refl rfl (fun f w' hR hV => ⟨?_, ?_⟩) ?_
                           rotate_left
                           · (obtain ⟨h22, _, _⟩ := hV; replace h22 : f 22 = _ := h22; exact want_yes (t := 66) rfl (by kernel_rfl) rfl h22)
                           · (obtain ⟨h22, h28, _⟩ := hV; replace h22 : f 22 = _ := h22; replace h28 : f 28 = _ := h28; obtain ⟨x0, x1, z0, z1⟩ := HX.out _ hR; go_simp; all_goals (try with_reducible rfl)))
                        | (refine Steps.skip rfl (fun f w' hR hV => ?_) ?_
                           · (obtain ⟨h22, _, _⟩ := hV; replace h22 : f 22 = _ := h22; first | exact want_no (t := 66) rfl (by kernel_rfl) rfl h22 rfl | exact want_undef (t := 66) rfl (by kernel_rfl) rfl h22))
                      all_goals first
                        | (refine Steps.pure (v := ?_) Keeps.refl rfl (fun f w' hR hV => ⟨?_, ?_⟩) ?_
                           rotate_left
                           · (obtain ⟨h22, _, _, _⟩ := hV; replace h22 : f 22 = _ := h22; exact want_yes (t := 66) rfl (by kernel_rfl) rfl h22)
                           · (obtain ⟨h22, h27, h29, _⟩ := hV; replace h22 : f 22 = _ := h22; replace h27 : f 27 = _ := h27; replace h29 : f 29 = _ := h29; obtain ⟨x0, x1, z0, z1⟩ := HX.out _ hR; go_simp; all_goals (try with_reducible rfl)))
                        | (refine Steps.skip rfl (fun f w' hR hV => ?_) ?_
                           · (obtain ⟨h22, _, _, _⟩ := hV; replace h22 : f 22 = _ := h22; first | exact want_no (t := 66) rfl (by kernel_rfl) rfl h22 rfl | exact want_undef (t := 66) rfl (by kernel_rfl) rfl h22))
                      all_goals first
                        | (refine Steps.pure (v := ?_) Keeps.refl rfl (fun f w' hR hV => ⟨?_, ?_⟩) ?_
                           rotate_left
                           · (obtain ⟨h13, _, _, _⟩ := hV; replace h13 : f 13 = _ := h13; exact want_yes (t := 57) rfl (by kernel_rfl) rfl h13)
                           · (obtain ⟨h13, h22, h30, _⟩ := hV; replace h13 : f 13 = _ := h13; replace h22 : f 22 = _ := h22; replace h30 : f 30 = _ := h30; obtain ⟨x0, x1, z0, z1⟩ := HX.out _ hR; go_simp; all_goals (try with_reducible rfl)))
                        | (refine Steps.skip rfl (fun f w' hR hV => ?_) ?_
                           · (obtain ⟨h13, _, _, _⟩ := hV; replace h13 : f 13 = _ := h13; first | exact want_no (t := 57) rfl (by kernel_rfl) rfl h13 rfl | exact want_undef (t := 57) rfl (by kernel_rfl) rfl h13))
                      all_goals first
                        | (refine Steps.pure (v := ?_) Keeps.refl rfl (fun f w' hR hV => ⟨?_, ?_⟩) ?_
                           rotate_left
                           · (obtain ⟨h4, _, _, _⟩ := hV; replace h4 : f 4 = _ := h4; exact want_yes (t := 48) rfl (by kernel_rfl) rfl h4)
                           · (obtain ⟨h4, h13, h31, _⟩ := hV; replace h4 : f 4 = _ := h4; replace h13 : f 13 = _ := h13; replace h31 : f 31 = _ := h31; obtain ⟨x0, x1, z0, z1⟩ := HX.out _ hR; go_simp; all_goals (try with_reducible rfl)))
                        | (refine Steps.skip rfl (fun f w' hR hV => ?_) ?_
                           · (obtain ⟨h4, _, _, _⟩ := hV; replace h4 : f 4 = _ := h4; first | exact want_no (t := 48) rfl (by kernel_rfl) rfl h4 rfl | exact want_undef (t := 48) rfl (by kernel_rfl) rfl h4))
                      all_goals (
                        refine Steps.pure (v := ?_) Keeps.refl rfl (fun f w' hR hV => ⟨?_, ?_⟩) ?_
                        rotate_left
                        · (rfl)
                        · (obtain ⟨h4, h32, _⟩ := hV; replace h4 : f 4 = _ := h4; replace h32 : f 32 = _ := h32; obtain ⟨x0, x1, z0, z1⟩ := HX.out _ hR; go_simp; all_goals (try with_reducible rfl)))
                      all_goals (refine Steps.done [33] (by kernel_rfl) rfl (fun f wq hR hV => ?_); obtain ⟨h33, _⟩ := hV; replace h33 : f 33 = _ := h33; simp only [h33])
                      go_wp2_with fail
                      go_meet
                      exact ⟨rfl, Lib.hid ((Keeps.refl wd).drew.trans hR)⟩
                    · have eb : (q.a == x.a) = false := by simpa using hb
                      have hbt : bq = false := by
                        rw [hbq]
                        refine decide_eq_false ?_
                        rintro ⟨_, h⟩
                        rw [hq] at h
                        rcases h with h | h
                        · exact ha h
                        · exact hb h.1
                      clear hbq HBQ hq ha hb
                      subst hbt
                      go_wp2_with fail
                      refine wp_region_steps (A := ?_) Keeps [some 44, some 45, some 46, some 47, some 48, some 49, some 50, some 51, some 52, some 53, some 54, some 55, some 56, some 57, some 58, some 59, some 60, some 61, some 62, some 63, some 64, some 65, some 66, some 67, some 68, some 69, some 70, some 71, some 72, some 73, some 74, some 75, some 76, some 77] [[], [], [1], [0, 2], [3], [4], [4], [4, 5, 6], [4, 7], [4, 8], [4], [4, 10], [4, 9, 11], [4, 12], [13], [13], [13, 14, 15], [13, 16], [13, 17], [13], [13, 19], [13, 18, 20], [13, 21], [22], [22], [22, 23, 24], [22, 25], [22, 26], [22], [22, 28], [22, 27, 29], [13, 22, 30], [4, 13, 31], [4, 32]] 34 (by kernel_rfl) (by kernel_rfl) (by kernel_rfl) (by kernel_rfl) (by kernel_rfl) (by kernel_rfl) Keeps.refl (fun _ _ _ => Keeps.trans) ?_ ?_
                      rotate_left
                      · intro f; simp only [putL, Act.put, List.setIfInBounds_toArray, List.set_cons_zero, List.set_cons_succ, Nat.zero_add, Nat.reduceAdd]; exact rfl
                      refine Steps.pure (v := ?_) Keeps.refl rfl (fun f w' hR hV => ⟨?_, ?_⟩) ?_
                      rotate_left
                      · (rfl)
                      · (clear hV; obtain ⟨x0, x1, z0, z1⟩ := HX.out _ hR; go_simp; all_goals (try with_reducible rfl))
                      refine Steps.pure (v := ?_) Keeps.refl rfl (fun f w' hR hV => ⟨?_, ?_⟩) ?_
                      rotate_left
                      · (rfl)
                      · (clear hV; obtain ⟨x0, x1, z0, z1⟩ := HX.out _ hR; go_simp; all_goals (try with_reducible rfl))
                      refine Steps.pure (v := ?_) Keeps.refl rfl (fun f w' hR hV => ⟨?_, ?_⟩) ?_
                      rotate_left
                      · (rfl)
                      · (obtain ⟨h1, _⟩ := hV; replace h1 : f 1 = _ := h1; obtain ⟨x0, x1, z0, z1⟩ := HX.out _ hR; go_simp; all_goals (try with_reducible rfl))
                      refine Steps.pure (v := ?_) Keeps.refl rfl (fun f w' hR hV => ⟨?_, ?_⟩) ?_
                      rotate_left
                      · (rfl)
                      · (obtain ⟨h0, h2, _⟩ := hV; replace h0 : f 0 = _ := h0; replace h2 : f 2 = _ := h2; obtain ⟨x0, x1, z0, z1⟩ := HX.out _ hR; go_simp; all_goals (try with_reducible rfl))
                      refine Steps.pure (v := ?_) Keeps.refl rfl (fun f w' hR hV => ⟨?_, ?_⟩) ?_
                      rotate_left
                      · (rfl)
                      · (obtain ⟨h3, _⟩ := hV; replace h3 : f 3 = _ := h3; obtain ⟨x0, x1, z0, z1⟩ := HX.out _ hR; go_simp; all_goals (try with_reducible rfl))
                      all_goals first
                        | (refine Steps.pure (v := ?_) Keeps.refl rfl (fun f w' hR hV => ⟨?_, ?_⟩) ?_
                           rotate_left
                           · (obtain ⟨h4, _⟩ := hV; replace h4 : f 4 = _ := h4; exact want_yes (t := 48) rfl (by kernel_rfl) rfl h4)
                           · (obtain ⟨h4, _⟩ := hV; replace h4 : f 4 = _ := h4; obtain ⟨x0, x1, z0, z1⟩ := HX.out _ hR; go_simp; all_goals (try with_reducible rfl)))
                        | (refine Steps.skip rfl (fun f w' hR hV => ?_) ?_
                           · (obtain ⟨h4, _⟩ := hV; replace h4 : f 4 = _ := h4; first | exact want_no (t := 48) rfl (by kernel_rfl) rfl h4 rfl | exact want_undef (t := 48) rfl (by kernel_rfl) rfl h4))
                      all_goals first
                        | (refine Steps.pure (v := ?_) Keeps.refl rfl (fun f w' hR hV => ⟨?_, ?_⟩) ?_
                           rotate_left
                           · (obtain ⟨h4, _⟩ := hV; replace h4 : f 4 = _ := h4; exact want_yes (t := 48) rfl (by kernel_rfl) rfl h4)
                           · (obtain ⟨h4, _⟩ := hV; replace h4 : f 4 = _ := h4; obtain ⟨x0, x1, z0, z1⟩ := HX.out _ hR; go_simp; all_goals (try with_reducible rfl)))
                        | (refine Steps.skip rfl (fun f w' hR hV => ?_) ?_
                           · (obtain ⟨h4, _⟩ := hV; replace h4 : f 4 = _ := h4; first | exact want_no (t := 48) rfl (by kernel_rfl) rfl h4 rfl | exact want_undef (t := 48) rfl (by kernel_rfl) rfl h4))
                      all_goals first
                        | (refine Steps.pure (v := ?_) Keeps.refl rfl (fun f w' hR hV => ⟨?_, ?_⟩) ?_
                           rotate_left
                           · (obtain ⟨h4, _, _, _⟩ := hV; replace h4 : f 4 = _ := h4; exact want_yes (t := 48) rfl (by kernel_rfl) rfl h4)
                           · (obtain ⟨h4, h5, h6, _⟩ := hV; replace h4 : f 4 = _ := h4; replace h5 : f 5 = _ := h5; replace h6 : f 6 = _ := h6; obtain ⟨x0, x1, z0, z1⟩ := HX.out _ hR; go_simp; all_goals (try with_reducible rfl)))
                        | (refine Steps.skip rfl (fun f w' hR hV => ?_) ?_
                           · (obtain ⟨h4, _, _, _⟩ := hV; replace h4 : f 4 = _ := h4; first | exact want_no (t := 48) rfl (by kernel_rfl) rfl h4 rfl | exact want_undef (t := 48) rfl (by kernel_rfl) rfl h4))
                      all_goals first
                        | (refine Steps.pure (v := ?_) Keeps.refl rfl (fun f w' hR hV => ⟨?_, ?_⟩) ?_
                           rotate_left
                           · (obtain ⟨h4, _, _⟩ := hV; replace h4 : f 4 = _ := h4; exact want_yes (t := 48) rfl (by kernel_rfl) rfl h4)
                           · (obtain ⟨h4, h7, _⟩ := hV; replace h4 : f 4 = _ := h4; replace h7 : f 7 = _ := h7; obtain ⟨x0, x1, z0, z1⟩ := HX.out _ hR; go_simp; all_goals (try with_reducible rfl)))
                        | (refine Steps.skip rfl (fun f w' hR hV => ?_) ?_
                           · (obtain ⟨h4, _, _⟩ := hV; replace h4 : f 4 = _ := h4; first | exact want_no (t := 48) rfl (by kernel_rfl) rfl h4 rfl | exact want_undef (t := 48) rfl (by kernel_rfl) rfl h4))
                      all_goals first
                        | (refine Steps.pure (v := ?_) Keeps.refl rfl (fun f w' hR hV => ⟨?_, ?_⟩) ?_
                           rotate_left
                           · (obtain ⟨h4, _, _⟩ := hV; replace h4 : f 4 = _ := h4; exact want_yes (t := 48) rfl (by kernel_rfl) rfl h4)
                           · (obtain ⟨h4, h8, _⟩ := hV; replace h4 : f 4 = _ := h4; replace h8 : f 8 = _ := h8; obtain ⟨x0, x1, z0, z1⟩ := HX.out _ hR; go_simp; all_goals (try with_reducible rfl)))
                        | (refine Steps.skip rfl (fun f w' hR hV => ?_) ?_
                           · (obtain ⟨h4, _, _⟩ := hV; replace h4 : f 4 = _ := h4; first | exact want_no (t := 48) rfl (by kernel_rfl) rfl h4 rfl | exact want_undef (t := 48) rfl (by kernel_rfl) rfl h4))
                      all_goals first
                        | (refine Steps.pure (v := ?_) Keeps.refl rfl (fun f w' hR hV => ⟨?_, ?_⟩) ?_
                           rotate_left
                           · (obtain ⟨h4, _⟩ := hV; replace h4 : f 4 = _ := h4; exact want_yes (t := 48) rfl (by kernel_rfl) rfl h4)
                           · (obtain ⟨h4, _⟩ := hV; replace h4 : f 4 = _ := h4; obtain ⟨x0, x1, z0, z1⟩ := HX.out _ hR; go_simp; all_goals (try with_reducible rfl)))
                        | (refine Steps.skip rfl (fun f w' hR hV => ?_) ?_
                           · (obtain ⟨h4, _⟩ := hV; replace h4 : f 4 = _ := h4; first | exact want_no (t := 48) rfl (by kernel_rfl) rfl h4 rfl | exact want_undef (t := 48) rfl (by kernel_rfl) rfl h4))
                      all_goals first
                        | (refine Steps.pure (v := ?_) Keeps.refl rfl (fun f w' hR hV => ⟨?_, ?_⟩) ?_
                           rotate_left
                           · (obtain ⟨h4, _, _⟩ := hV; replace h4 : f 4 = _ := h4; exact want_yes (t := 48) rfl (by kernel_rfl) rfl h4)
                           · (obtain ⟨h4, h10, _⟩ := hV; replace h4 : f 4 = _ := h4; replace h10 : f 10 = _ := h10; obtain ⟨x0, x1, z0, z1⟩ := HX.out _ hR; go_simp; all_goals (try with_reducible rfl)))
                        | (refine Steps.skip rfl (fun f w' hR hV => ?_) ?_
                           · (obtain ⟨h4, _, _⟩ := hV; replace h4 : f 4 = _ := h4; first | exact want_no (t := 48) rfl (by kernel_rfl) rfl h4 rfl | exact want_undef (t := 48) rfl (by kernel_rfl) rfl h4))
                      all_goals first
                        | (refine Steps.pure (v := ?_) Keeps.refl rfl (fun f w' hR hV => ⟨?_, ?_⟩) ?_
                           rotate_left
                           · (obtain ⟨h4, _, _, _⟩ := hV; replace h4 : f 4 = _ := h4; exact want_yes (t := 48) rfl (by kernel_rfl) rfl h4)
                           · (obtain ⟨h4, h9, h11, _⟩ := hV; replace h4 : f 4 = _ := h4; replace h9 : f 9 = _ := h9; replace h11 : f 11 = _ := h11; obtain ⟨x0, x1, z0, z1⟩ := HX.out _ hR; go_simp; all_goals (try with_reducible rfl)))
                        | (refine Steps.skip rfl (fun f w' hR hV => ?_) ?_
                           · (obtain ⟨h4, _, _, _⟩ := hV; replace h4 : f 4 = _ := h4; first | exact want_no (t := 48) rfl (by kernel_rfl) rfl h4 rfl | exact want_undef (t := 48) rfl (by kernel_rfl) rfl h4))
                      all_goals first
                        | (refine Steps.pure (v := ?_) Keeps.refl rfl (fun f w' hR hV => ⟨?_, ?_⟩) ?_
                           rotate_left
                           · (obtain ⟨h4, _, _⟩ := hV; replace h4 : f 4 = _ := h4; exact want_yes (t := 48) rfl (by kernel_rfl) rfl h4)
                           · (obtain ⟨h4, h12, _⟩ := hV; replace h4 : f 4 = _ := h4; replace h12 : f 12 = _ := h12; obtain ⟨x0, x1, z0, z1⟩ := HX.out _ hR; go_simp; all_goals (try with_reducible rfl)))
                        | (refine Steps.skip rfl (fun f w' hR hV => ?_) ?_
                           · (obtain ⟨h4, _, _⟩ := hV; replace h4 : f 4 = _ := h4; first | exact want_no (t := 48) rfl (by kernel_rfl) rfl h4 rfl | exact want_undef (t := 48) rfl (by kernel_rfl) rfl h4))
                      all_goals first
                        | (refine Steps.pure (v := ?_) Keeps.refl rfl (fun f w' hR hV => ⟨?_, ?_⟩) ?_
                           rotate_left
                           · (obtain ⟨h13, _⟩ := hV; replace h13 : f 13 = _ := h13; exact want_yes (t := 57) rfl (by kernel_rfl) rfl h13)
                           · (obtain ⟨h13, _⟩ := hV; replace h13 : f 13 = _ := h13; obtain ⟨x0, x1, z0, z1⟩ := HX.out _ hR; go_simp; all_goals (try with_reducible rfl)))
                        | (refine Steps.skip rfl (fun f w' hR hV => ?_) ?_
                           · (obtain ⟨h13, _⟩ := hV; replace h13 : f 13 = _ := h13; first | exact want_no (t := 57) rfl (by kernel_rfl) rfl h13 rfl | exact want_undef (t := 57) rfl (by kernel_rfl) rfl h13))
                      all_goals first
                        | (refine Steps.pure (v := ?_) Keeps.refl rfl (fun f w' hR hV => ⟨?_, ?_⟩) ?_
                           rotate_left
                           · (obtain ⟨h13, _⟩ := hV; replace h13 : f 13 = _ := h13; exact want_yes (t := 57) rfl (by kernel_rfl) rfl h13)
                           · (obtain ⟨h13, _⟩ := hV; replace h13 : f 13 = _ := h13; obtain ⟨x0, x1, z0, z1⟩ := HX.out _ hR; go_simp; all_goals (try with_reducible rfl)))
                        | (refine Steps.skip rfl (fun f w' hR hV => ?_) ?_
                           · (obtain ⟨h13, _⟩ := hV; replace h13 : f 13 = _ := h13; first | exact want_no (t := 57) rfl (by kernel_rfl) rfl h13 rfl | exact want_undef (t := 57) rfl (by kernel_rfl) rfl h13))
                      all_goals first
                        | (refine Steps.pure (v := ?_) Keeps.refl rfl (fun f w' hR hV => ⟨?_, ?_⟩) ?_
                           rotate_left
                           · (obtain ⟨h13, _, _, _⟩ := hV; replace h13 : f 13 = _ := h13; exact want_yes (t := 57) rfl (by kernel_rfl) rfl h13)
                           · (obtain ⟨h13, h14, h15, _⟩ := hV; replace h13 : f 13 = _ := h13; replace h14 : f 14 = _ := h14; replace h15 : f 15 = _ := h15; obtain ⟨x0, x1, z0, z1⟩ := HX.out _ hR; go_simp; all_goals (try with_reducible rfl)))
                        | (refine Steps.skip rfl (fun f w' hR hV => ?_) ?_
                           · (obtain ⟨h13, _, _, _⟩ := hV; replace h13 : f 13 = _ := h13; first | exact want_no (t := 57) rfl (by kernel_rfl) rfl h13 rfl | exact want_undef (t := 57) rfl (by kernel_rfl) rfl h13))
                      all_goals first
                        | (refine Steps.pure (v := ?_) Keeps.refl rfl (fun f w' hR hV => ⟨?_, ?_⟩) ?_
                           rotate_left
                           · (obtain ⟨h13, _, _⟩ := hV; replace h13 : f 13 = _ := h13; exact want_yes (t := 57) rfl (by kernel_rfl) rfl h13)
                           · (obtain ⟨h13, h16, _⟩ := hV; replace h13 : f 13 = _ := h13; replace h16 : f 16 = _ := h16; obtain ⟨x0, x1, z0, z1⟩ := HX.out _ hR; go_simp; all_goals (try with_reducible rfl)))
                        | (refine Steps.skip rfl (fun f w' hR hV => ?_) ?_
                           · (obtain ⟨h13, _, _⟩ := hV; replace h13 : f 13 = _ := h13; first | exact want_no (t := 57) rfl (by kernel_rfl) rfl h13 rfl | exact want_undef (t := 57) rfl (by kernel_rfl) rfl h13))
                      all_goals first
                        | (refine Steps.pure (v := ?_) Keeps.refl rfl (fun f w' hR hV => ⟨?_, ?_⟩) ?_
                           rotate_left
                           · (obtain ⟨h13, _, _⟩ := hV; replace h13 : f 13 = _ := h13; exact want_yes (t := 57) rfl (by kernel_rfl) rfl h13)
                           · (obtain ⟨h13, h17, _⟩ := hV; replace h13 : f 13 = _ := h13; replace h17 : f 17 = _ := h17; obtain ⟨x0, x1, z0, z1⟩ := HX.out _ hR; go_simp; all_goals (try with_reducible rfl)))
                        | (refine Steps.skip rfl (fun f w' hR hV => ?_) ?_
                           · (obtain ⟨h13, _, _⟩ := hV; replace h13 : f 13 = _ := h13; first | exact want_no (t := 57) rfl (by kernel_rfl) rfl h13 rfl | exact want_undef (t := 57) rfl (by kernel_rfl) rfl h13))
                      all_goals first
                        | (refine Steps.pure (v := ?_) Keeps.refl rfl (fun f w' hR hV => ⟨?_, ?_⟩) ?_
                           rotate_left
                           · (obtain ⟨h13, _⟩ := hV; replace h13 : f 13 = _ := h13; exact want_yes (t := 57) rfl (by kernel_rfl) rfl h13)
                           · (obtain ⟨h13, _⟩ := hV; replace h13 : f 13 = _ := h13; obtain ⟨x0, x1, z0, z1⟩ := HX.out _ hR; go_simp; all_goals (try with_reducible rfl)))
                        | (refine Steps.skip rfl (fun f w' hR hV => ?_) ?_
                           · (obtain ⟨h13, _⟩ := hV; replace h13 : f 13 = _ := h13; first | exact want_no (t := 57) rfl (by kernel_rfl) rfl h13 rfl | exact want_undef (t := 57) rfl (by kernel_rfl) rfl h13))
                      all_goals first
                        | (refine Steps.pure (v := ?_) Keeps.refl rfl (fun f w' hR hV => ⟨?_, ?_⟩) ?_
                           rotate_left
                           · (obtain ⟨h13, _, _⟩ := hV; replace h13 : f 13 = _ := h13; exact want_yes (t := 57) rfl (by kernel_rfl) rfl h13)
                           · (obtain ⟨h13, h19, _⟩ := hV; replace h13 : f 13 = _ := h13; replace h19 : f 19 = _ := h19; obtain ⟨x0, x1, z0, z1⟩ := HX.out _ hR; go_simp; all_goals (try with_reducible rfl)))
                        | (refine Steps.skip rfl (fun f w' hR hV => ?_) ?_
                           · (obtain ⟨h13, _, _⟩ := hV; replace h13 : f 13 = _ := h13; first | exact want_no (t := 57) rfl (by kernel_rfl) rfl h13 rfl | exact want_undef (t := 57) rfl (by kernel_rfl) rfl h13))
                      all_goals first
                        | (refine Steps.pure (v := ?_) Keeps.refl rfl (fun f w' hR hV => ⟨?_, ?_⟩) ?_
                           rotate_left
                           · (obtain ⟨h13, _, _, _⟩ := hV; replace h13 : f 13 = _ := h13; exact want_yes (t := 57) rfl (by kernel_rfl) rfl h13)
                           · (obtain ⟨h13, h18, h20, _⟩ := hV; replace h13 : f 13 = _ := h13; replace h18 : f 18 = _ := h18; replace h20 : f 20 = _ := h20; obtain ⟨x0, x1, z0, z1⟩ := HX.out _ hR; go_simp; all_goals (try with_reducible rfl)))
                        | (refine Steps.skip rfl (fun f w' hR hV => ?_) ?_
                           · (obtain ⟨h13, _, _, _⟩ := hV; replace h13 : f 13 = _ := h13; first | exact want_no (t := 57) rfl (by kernel_rfl) rfl h13 rfl | exact want_undef (t := 57) rfl (by kernel_rfl) rfl h13))
                      all_goals first
                        | (refine Steps.pure (v := ?_) Keeps.refl rfl (fun f w' hR hV => ⟨?_, ?_⟩) ?_
                           rotate_left
                           · (obtain ⟨h13, _, _⟩ := hV; replace h13 : f 13 = _ := h13; exact want_yes (t := 57) rfl (by kernel_rfl) rfl h13)
                           · (obtain ⟨h13, h21, _⟩ := hV; replace h13 : f 13 = _ := h13; replace h21 : f 21 = _ := h21; obtain ⟨x0, x1, z0, z1⟩ := HX.out _ hR; go_simp; all_goals (try with_reducible rfl)))
                        | (refine Steps.skip rfl (fun f w' hR hV => ?_) ?_
                           · (obtain ⟨h13, _, _⟩ := hV; replace h13 : f 13 = _ := h13; first | exact want_no (t := 57) rfl (by kernel_rfl) rfl h13 rfl | exact want_undef (t := 57) rfl (by kernel_rfl) rfl h13))
                      all_goals first
                        | (refine Steps.pure (v := ?_) Keeps.refl rfl (fun f w' hR hV => ⟨?_, ?_⟩) ?_
                           rotate_left
                           · (obtain ⟨h22, _⟩ := hV; replace h22 : f 22 = _ := h22; exact want_yes (t := 66) rfl (by kernel_rfl) rfl h22)
                           · (obtain ⟨h22, _⟩ := hV; replace h22 : f 22 = _ := h22; obtain ⟨x0, x1, z0, z1⟩ := HX.out _ hR; go_simp; all_goals (try with_reducible rfl)))
                        | (refine Steps.skip rfl (fun f w' hR hV => ?_) ?_
                           · (obtain ⟨h22, _⟩ := hV; replace h22 : f 22 = _ := h22; first | exact want_no (t := 66) rfl (by kernel_rfl) rfl h22 rfl | exact want_undef (t := 66) rfl (by kernel_rfl) rfl h22))
                      all_goals first
                        | (refine Steps.pure (v := ?_) Keeps.refl rfl (fun f w' hR hV => ⟨?_, ?_⟩) ?_
                           rotate_left
                           · (obtain ⟨h22, _⟩ := hV; replace h22 : f 22 = _ := h22; exact want_yes (t := 66) rfl (by kernel_rfl) rfl h22)
                           · (obtain ⟨h22, _⟩ := hV; replace h22 : f 22 = _ := h22; obtain ⟨x0, x1, z0, z1⟩ := HX.out _ hR; go_simp; all_goals (try with_reducible rfl)))
                        | (refine Steps.skip rfl (fun f w' hR hV => ?_) ?_
                           · (obtain ⟨h22, _⟩ := hV; replace h22 : f 22 = _ := h22; first | exact want_no (t := 66) rfl (by kernel_rfl) rfl h22 rfl | exact want_undef (t := 66) rfl (by kernel_rfl) rfl h22))
                      all_goals first
                        | (refine Steps.pure (v := ?_) Keeps.refl rfl (fun f w' hR hV => ⟨?_, ?_⟩) ?_
                           rotate_left
                           · (obtain ⟨h22, _, _, _⟩ := hV; replace h22 : f 22 = _ := h22; exact want_yes (t := 66) rfl (by kernel_rfl) rfl h22)
                           · (obtain ⟨h22, h23, h24, _⟩ := hV; replace h22 : f 22 = _ := h22; replace h23 : f 23 = _ := h23; replace h24 : f 24 = _ := h24; obtain ⟨x0, x1, z0, z1⟩ := HX.out _ hR; go_simp; all_goals (try with_reducible rfl)))
                        | (refine Steps.skip rfl (fun f w' hR hV => ?_) ?_
                           · (obtain ⟨h22, _, _, _⟩ := hV; replace h22 : f 22 = _ := h22; first | exact want_no (t := 66) rfl (by kernel_rfl) rfl h22 rfl | exact want_undef (t := 66) rfl (by kernel_rfl) rfl h22))
                      all_goals first
                        | (refine Steps.pure (v := ?_) Keeps.refl rfl (fun f w' hR hV => ⟨?_, ?_⟩) ?_
                           rotate_left
                           · (obtain ⟨h22, _, _⟩ := hV; replace h22 : f 22 = _ := h22; exact want_yes (t := 66) rfl (by kernel_rfl) rfl h22)
                           · (obtain ⟨h22, h25, _⟩ := hV; replace h22 : f 22 = _ := h22; replace h25 : f 25 = _ := h25; obtain ⟨x0, x1, z0, z1⟩ := HX.out _ hR; go_simp; all_goals (try with_reducible rfl)))
                        | (refine Steps.skip rfl (fun f w' hR hV => ?_) ?_
                           · (obtain ⟨h22, _, _⟩ := hV; replace h22 : f 22 = _ := h22; first | exact want_no (t := 66) rfl (by kernel_rfl) rfl h22 rfl | exact want_undef (t := 66) rfl (by kernel_rfl) rfl h22))
                      all_goals first
                        | (refine Steps.pure (v := ?_) Keeps.refl rfl (fun f w' hR hV => ⟨?_, ?_⟩) ?_
                           rotate_left
                           · (obtain ⟨h22, _, _⟩ := hV; replace h22 : f 22 = _ := h22; exact want_yes (t := 66) rfl (by kernel_rfl) rfl h22)
                           · (obtain ⟨h22, h26, _⟩ := hV; replace h22 : f 22 = _ := h22; replace h26 : f 26 = _ := h26; obtain ⟨x0, x1, z0, z1⟩ := HX.out _ hR; go_simp; all_goals (try with_reducible rfl)))
                        | (refine Steps.skip rfl (fun f w' hR hV => ?_) ?_
                           · (obtain ⟨h22, _, _⟩ := hV; replace h22 : f 22 = _ := h22; first | exact want_no (t := 66) rfl (by kernel_rfl) rfl h22 rfl | exact want_undef (t := 66) rfl (by kernel_rfl) rfl h22))
                      all_goals first
                        | (refine Steps.pure (v := ?_) Keeps.refl rfl (fun f w' hR hV => ⟨?_, ?_⟩) ?_
                           rotate_left
                           · (obtain ⟨h22, _⟩ := hV; replace h22 : f 22 = _ := h22; exact want_yes (t := 66) rfl (by kernel_rfl) rfl h22)
                           · (obtain ⟨h22, _⟩ := hV; replace h22 : f 22 = _ := h22; obtain ⟨x0, x1, z0, z1⟩ := HX.out _ hR; go_simp; all_goals (try with_reducible rfl)))
                        | (refine Steps.skip rfl (fun f w' hR hV => ?_) ?_
                           · (obtain ⟨h22, _⟩ := hV; replace h22 : f 22 = _ := h22; first | exact want_no (t := 66) rfl (by kernel_rfl) rfl h22 rfl | exact want_undef (t := 66) rfl (by kernel_rfl) rfl h22))
                      all_goals first
                        | (refine Steps.pure (v := ?_) Keeps.refl rfl (fun f w' hR hV => ⟨?_, ?_⟩) ?_
                           rotate_left
                           · (obtain ⟨h22, _, _⟩ := hV; replace h22 : f 22 = _ := h22; exact want_yes (t := 66) rfl (by kernel_rfl) rfl h22)
                           · (obtain ⟨h22, h28, _⟩ := hV; replace h22 : f 22 = _ := h22; replace h28 : f 28 = _ := h28; obtain ⟨x0, x1, z0, z1⟩ := HX.out _ hR; go_simp; all_goals (try with_reducible rfl)))
                        | (refine Steps.skip rfl (fun f w' hR hV => ?_) ?_
                           · (obtain ⟨h22, _, _⟩ := hV; replace h22 : f 22 = _ := h22; first | exact want_no (t := 66) rfl (by kernel_rfl) rfl h22 rfl | exact want_undef (t := 66) rfl (by kernel_rfl) rfl h22))
                      all_goals first
                        | (refine Steps.pure (v := ?_) Keeps.refl rfl (fun f w' hR hV => ⟨?_, ?_⟩) ?_
                           rotate_left
                           · (obtain ⟨h22, _, _, _⟩ := hV; replace h22 : f 22 = _ := h22; exact want_yes (t := 66) rfl (by kernel_rfl) rfl h22)
                           · (obtain ⟨h22, h27, h29, _⟩ := hV; replace h22 : f 22 = _ := h22; replace h27 : f 27 = _ := h27; replace h29 : f 29 = _ := h29; obtain ⟨x0, x1, z0, z1⟩ := HX.out _ hR; go_simp; all_goals (try with_reducible rfl)))
                        | (refine Steps.skip rfl (fun f w' hR hV => ?_) ?_
                           · (obtain ⟨h22, _, _, _⟩ := hV; replace h22 : f 22 = _ := h22; first | exact want_no (t := 66) rfl (by kernel_rfl) rfl h22 rfl | exact want_undef (t := 66) rfl (by kernel_rfl) rfl h22))
                      all_goals first
                        | (refine Steps.pure (v := ?_) Keeps.refl rfl (fun f w' hR hV => ⟨?_, ?_⟩) ?_
                           rotate_left
                           · (obtain ⟨h13, _, _, _⟩ := hV; replace h13 : f 13 = _ := h13; exact want_yes (t := 57) rfl (by kernel_rfl) rfl h13)
                           · (obtain ⟨h13, h22, h30, _⟩ := hV; replace h13 : f 13 = _ := h13; replace h22 : f 22 = _ := h22; replace h30 : f 30 = _ := h30; obtain ⟨x0, x1, z0, z1⟩ := HX.out _ hR; go_simp; all_goals (try with_reducible rfl)))
                        | (refine Steps.skip rfl (fun f w' hR hV => ?_) ?_
                           · (obtain ⟨h13, _, _, _⟩ := hV; replace h13 : f 13 = _ := h13; first | exact want_no (t := 57) rfl (by kernel_rfl) rfl h13 rfl | exact want_undef (t := 57) rfl (by kernel_rfl) rfl h13))
                      all_goals first
                        | (refine Steps.pure (v := ?_) Keeps.refl rfl (fun f w' hR hV => ⟨?_, ?_⟩) ?_
                           rotate_left
                           · (obtain ⟨h4, _, _, _⟩ := hV; replace h4 : f 4 = _ := h4; exact want_yes (t := 48) rfl (by kernel_rfl) rfl h4)
                           · (obtain ⟨h4, h13, h31, _⟩ := hV; replace h4 : f 4 = _ := h4; replace h13 : f 13 = _ := h13; replace h31 : f 31 = _ := h31; obtain ⟨x0, x1, z0, z1⟩ := HX.out _ hR; go_simp; all_goals (try with_reducible rfl)))
                        | (refine Steps.skip rfl (fun f w' hR hV => ?_) ?_
                           · (obtain ⟨h4, _, _, _⟩ := hV; replace h4 : f 4 = _ := h4; first | exact want_no (t := 48) rfl (by kernel_rfl) rfl h4 rfl | exact want_undef (t := 48) rfl (by kernel_rfl) rfl h4))
                      all_goals (
                        refine Steps.pure (v := ?_) Keeps.refl rfl (fun f w' hR hV => ⟨?_, ?_⟩) ?_
                        rotate_left
                        · (rfl)
                        · (obtain ⟨h4, h32, _⟩ := hV; replace h4 : f 4 = _ := h4; replace h32 : f 32 = _ := h32; obtain ⟨x0, x1, z0, z1⟩ := HX.out _ hR; go_simp; all_goals (try with_reducible rfl)))
                      all_goals (refine Steps.done [33] (by kernel_rfl) rfl (fun f wq hR hV => ?_); obtain ⟨h33, _⟩ := hV; replace h33 : f 33 = _ := h33; simp only [h33])
                      go_wp2_with fail
                      go_meet
                      exact ⟨rfl, Lib.hid ((Keeps.refl wd).drew.trans hR)⟩
                · have hdl : decide ((n : Int) < (g.length : Int)) = false := by simp; omega
                  have hbt : bq = false := by rw [hbq]; exact decide_eq_false (fun ⟨h, _⟩ => hlt2 h)
                  clear hbq HBQ
                  subst hbt
                  go_wp2_with fail
                  refine wp_region_steps (A := ?_) Keeps [some 44, some 45, some 46, some 47, some 48, some 49, some 50, some 51, some 52, some 53, some 54, some 55, some 56, some 57, some 58, some 59, some 60, some 61, some 62, some 63, some 64, some 65, some 66, some 67, some 68, some 69, some 70, some 71, some 72, some 73, some 74, some 75, some 76, some 77] [[], [], [1], [0, 2], [3], [4], [4], [4, 5, 6], [4, 7], [4, 8], [4], [4, 10], [4, 9, 11], [4, 12], [13], [13], [13, 14, 15], [13, 16], [13, 17], [13], [13, 19], [13, 18, 20], [13, 21], [22], [22], [22, 23, 24], [22, 25], [22, 26], [22], [22, 28], [22, 27, 29], [13, 22, 30], [4, 13, 31], [4, 32]] 34 (by kernel_rfl) (by kernel_rfl) (by kernel_rfl) (by kernel_rfl) (by kernel_rfl) (by kernel_rfl) Keeps.refl (fun _ _ _ => Keeps.trans) ?_ ?_
                  rotate_left
                  · intro f; simp only [putL, Act.put, List.setIfInBounds_toArray, List.set_cons_zero, List.set_cons_succ, Nat.zero_add, Nat.reduceAdd]; exact rfl
                  refine Steps.pure (v := ?_) Keeps.refl rfl (fun f w' hR hV => ⟨?_, ?_⟩) ?_
                  rotate_left
                  · (rfl)
                  · (clear hV; go_simp; all_goals (try with_reducible rfl))
                  refine Steps.pure (v := ?_) Keeps.refl rfl (fun f w' hR hV => ⟨?_, ?_⟩) ?_
                  rotate_left
                  · (rfl)
                  · (clear hV; go_simp; all_goals (try with_reducible rfl))
                  refine Steps.pure (v := ?_) Keeps.refl rfl (fun f w' hR hV => ⟨?_, ?_⟩) ?_
                  rotate_left
                  · (rfl)
                  · (obtain ⟨h1, _⟩ := hV; replace h1 : f 1 = _ := h1; go_simp; all_goals (try with_reducible rfl))
                  refine Steps.pure (v := ?_) Keeps.refl rfl (fun f w' hR hV => ⟨?_, ?_⟩) ?_
                  rotate_left
                  · (rfl)
                  · (obtain ⟨h0, h2, _⟩ := hV; replace h0 : f 0 = _ := h0; replace h2 : f 2 = _ := h2; go_simp; all_goals (try with_reducible rfl))
                  refine Steps.pure (v := ?_) Keeps.refl rfl (fun f w' hR hV => ⟨?_, ?_⟩) ?_
                  rotate_left
                  · (rfl)
                  · (obtain ⟨h3, _⟩ := hV; replace h3 : f 3 = _ := h3; go_simp; all_goals (try with_reducible rfl))
                  all_goals first
                    | (refine Steps.pure (v := ?_) Keeps.refl rfl (fun f w' hR hV => ⟨?_, ?_⟩) ?_
                       rotate_left
                       · (obtain ⟨h4, _⟩ := hV; replace h4 : f 4 = _ := h4; exact want_yes (t := 48) rfl (by kernel_rfl) rfl h4)
                       · (obtain ⟨h4, _⟩ := hV; replace h4 : f 4 = _ := h4; go_simp; all_goals (try with_reducible rfl)))
                    | (refine Steps.skip rfl (fun f w' hR hV => ?_) ?_
                       · (obtain ⟨h4, _⟩ := hV; replace h4 : f 4 = _ := h4; first | exact want_no (t := 48) rfl (by kernel_rfl) rfl h4 rfl | exact want_undef (t := 48) rfl (by kernel_rfl) rfl h4))
                  all_goals first
                    | (refine Steps.pure (v := ?_) Keeps.refl rfl (fun f w' hR hV => ⟨?_, ?_⟩) ?_
                       rotate_left
                       · (obtain ⟨h4, _⟩ := hV; replace h4 : f 4 = _ := h4; exact want_yes (t := 48) rfl (by kernel_rfl) rfl h4)
                       · (obtain ⟨h4, _⟩ := hV; replace h4 : f 4 = _ := h4; go_simp; all_goals (try with_reducible rfl)))
                    | (refine Steps.skip rfl (fun f w' hR hV => ?_) ?_
                       · (obtain ⟨h4, _⟩ := hV; replace h4 : f 4 = _ := h4; first | exact want_no (t := 48) rfl (by kernel_rfl) rfl h4 rfl | exact want_undef (t := 48) rfl (by kernel_rfl) rfl h4))
                  all_goals first
                    | (refine Steps.pure (v := ?_) Keeps.refl rfl (fun f w' hR hV => ⟨?_, ?_⟩) ?_
                       rotate_left
                       · (obtain ⟨h4, _, _, _⟩ := hV; replace h4 : f 4 = _ := h4; exact want_yes (t := 48) rfl (by kernel_rfl) rfl h4)
                       · (obtain ⟨h4, h5, h6, _⟩ := hV; replace h4 : f 4 = _ := h4; replace h5 : f 5 = _ := h5; replace h6 : f 6 = _ := h6; go_simp; all_goals (try with_reducible rfl)))
                    | (refine Steps.skip rfl (fun f w' hR hV => ?_) ?_
                       · (obtain ⟨h4, _, _, _⟩ := hV; replace h4 : f 4 = _ := h4; first | exact want_no (t := 48) rfl (by kernel_rfl) rfl h4 rfl | exact want_undef (t := 48) rfl (by kernel_rfl) rfl h4))
                  all_goals first
                    | (refine Steps.pure (v := ?_) Keeps.refl rfl (fun f w' hR hV => ⟨?_, ?_⟩) ?_
                       rotate_left
                       · (obtain ⟨h4, _, _⟩ := hV; replace h4 : f 4 = _ := h4; exact want_yes (t := 48) rfl (by kernel_rfl) rfl h4)
                       · (obtain ⟨h4, h7, _⟩ := hV; replace h4 : f 4 = _ := h4; replace h7 : f 7 = _ := h7; go_simp; all_goals (try with_reducible rfl)))
                    | (refine Steps.skip rfl (fun f w' hR hV => ?_) ?_
                       · (obtain ⟨h4, _, _⟩ := hV; replace h4 : f 4 = _ := h4; first | exact want_no (t := 48) rfl (by kernel_rfl) rfl h4 rfl | exact want_undef (t := 48) rfl (by kernel_rfl) rfl h4))
                  all_goals first
                    | (refine Steps.pure (v := ?_) Keeps.refl rfl (fun f w' hR hV => ⟨?_, ?_⟩) ?_
                       rotate_left
                       · (obtain ⟨h4, _, _⟩ := hV; replace h4 : f 4 = _ := h4; exact want_yes (t := 48) rfl (by kernel_rfl) rfl h4)
                       · (obtain ⟨h4, h8, _⟩ := hV; replace h4 : f 4 = _ := h4; replace h8 : f 8 = _ := h8; go_simp; all_goals (try with_reducible rfl)))
                    | (refine Steps.skip rfl (fun f w' hR hV => ?_) ?_
                       · (obtain ⟨h4, _, _⟩ := hV; replace h4 : f 4 = _ := h4; first | exact want_no (t := 48) rfl (by kernel_rfl) rfl h4 rfl | exact want_undef (t := 48) rfl (by kernel_rfl) rfl h4))
                  all_goals first
                    | (refine Steps.pure (v := ?_) Keeps.refl rfl (fun f w' hR hV => ⟨?_, ?_⟩) ?_
                       rotate_left
                       · (obtain ⟨h4, _⟩ := hV; replace h4 : f 4 = _ := h4; exact want_yes (t := 48) rfl (by kernel_rfl) rfl h4)
                       · (obtain ⟨h4, _⟩ := hV; replace h4 : f 4 = _ := h4; go_simp; all_goals (try with_reducible rfl)))
                    | (refine Steps.skip rfl (fun f w' hR hV => ?_) ?_
                       · (obtain ⟨h4, _⟩ := hV; replace h4 : f 4 = _ := h4; first | exact want_no (t := 48) rfl (by kernel_rfl) rfl h4 rfl | exact want_undef (t := 48) rfl (by kernel_rfl) rfl h4))
                  all_goals first
                    | (refine Steps.pure (v := ?_) Keeps.refl rfl (fun f w' hR hV => ⟨?_, ?_⟩) ?_
                       rotate_left
                       · (obtain ⟨h4, _, _⟩ := hV; replace h4 : f 4 = _ := h4; exact want_yes (t := 48) rfl (by kernel_rfl) rfl h4)
                       · (obtain ⟨h4, h10, _⟩ := hV; replace h4 : f 4 = _ := h4; replace h10 : f 10 = _ := h10; go_simp; all_goals (try with_reducible rfl)))
                    | (refine Steps.skip rfl (fun f w' hR hV => ?_) ?_
                       · (obtain ⟨h4, _, _⟩ := hV; replace h4 : f 4 = _ := h4; first | exact want_no (t := 48) rfl (by kernel_rfl) rfl h4 rfl | exact want_undef (t := 48) rfl (by kernel_rfl) rfl h4))
                  all_goals first
                    | (refine Steps.pure (v := ?_) Keeps.refl rfl (fun f w' hR hV => ⟨?_, ?_⟩) ?_
                       rotate_left
                       · (obtain ⟨h4, _, _, _⟩ := hV; replace h4 : f 4 = _ := h4; exact want_yes (t := 48) rfl (by kernel_rfl) rfl h4)
                       · (obtain ⟨h4, h9, h11, _⟩ := hV; replace h4 : f 4 = _ := h4; replace h9 : f 9 = _ := h9; replace h11 : f 11 = _ := h11; go_simp; all_goals (try with_reducible rfl)))
                    | (refine Steps.skip rfl (fun f w' hR hV => ?_) ?_
                       · (obtain ⟨h4, _, _, _⟩ := hV; replace h4 : f 4 = _ := h4; first | exact want_no (t := 48) rfl (by kernel_rfl) rfl h4 rfl | exact want_undef (t := 48) rfl (by kernel_rfl) rfl h4))
                  all_goals first
                    | (refine Steps.pure (v := ?_) Keeps.refl rfl (fun f w' hR hV => ⟨?_, ?_⟩) ?_
                       rotate_left
                       · (obtain ⟨h4, _, _⟩ := hV; replace h4 : f 4 = _ := h4; exact want_yes (t := 48) rfl (by kernel_rfl) rfl h4)
                       · (obtain ⟨h4, h12, _⟩ := hV; replace h4 : f 4 = _ := h4; replace h12 : f 12 = _ := h12; go_simp; all_goals (try with_reducible rfl)))
                    | (refine Steps.skip rfl (fun f w' hR hV => ?_) ?_
                       · (obtain ⟨h4, _, _⟩ := hV; replace h4 : f 4 = _ := h4; first | exact want_no (t := 48) rfl (by kernel_rfl) rfl h4 rfl | exact want_undef (t := 48) rfl (by kernel_rfl) rfl h4))
                  all_goals first
                    | (refine Steps.pure (v := ?_) Keeps.refl rfl (fun f w' hR hV => ⟨?_, ?_⟩) ?_
                       rotate_left
                       · (obtain ⟨h13, _⟩ := hV; replace h13 : f 13 = _ := h13; exact want_yes (t := 57) rfl (by kernel_rfl) rfl h13)
                       · (obtain ⟨h13, _⟩ := hV; replace h13 : f 13 = _ := h13; go_simp; all_goals (try with_reducible rfl)))
                    | (refine Steps.skip rfl (fun f w' hR hV => ?_) ?_
                       · (obtain ⟨h13, _⟩ := hV; replace h13 : f 13 = _ := h13; first | exact want_no (t := 57) rfl (by kernel_rfl) rfl h13 rfl | exact want_undef (t := 57) rfl (by kernel_rfl) rfl h13))
                  all_goals first
                    | (refine Steps.pure (v := ?_) Keeps.refl rfl (fun f w' hR hV => ⟨?_, ?_⟩) ?_
                       rotate_left
                       · (obtain ⟨h13, _⟩ := hV; replace h13 : f 13 = _ := h13; exact want_yes (t := 57) rfl (by kernel_rfl) rfl h13)
                       · (obtain ⟨h13, _⟩ := hV; replace h13 : f 13 = _ := h13; go_simp; all_goals (try with_reducible rfl)))
                    | (refine Steps.skip rfl (fun f w' hR hV => ?_) ?_
                       · (obtain ⟨h13, _⟩ := hV; replace h13 : f 13 = _ := h13; first | exact want_no (t := 57) rfl (by kernel_rfl) rfl h13 rfl | exact want_undef (t := 57) rfl (by kernel_rfl) rfl h13))
                  all_goals first
                    | (refine Steps.pure (v := ?_) Keeps.refl rfl (fun f w' hR hV => ⟨?_, ?_⟩) ?_
                       rotate_left
                       · (obtain ⟨h13, _, _, _⟩ := hV; replace h13 : f 13 = _ := h13; exact want_yes (t := 57) rfl (by kernel_rfl) rfl h13)
                       · (obtain ⟨h13, h14, h15, _⟩ := hV; replace h13 : f 13 = _ := h13; replace h14 : f 14 = _ := h14; replace h15 : f 15 = _ := h15; go_simp; all_goals (try with_reducible rfl)))
                    | (refine Steps.skip rfl (fun f w' hR hV => ?_) ?_
                       · (obtain ⟨h13, _, _, _⟩ := hV; replace h13 : f 13 = _ := h13; first | exact want_no (t := 57) rfl (by kernel_rfl) rfl h13 rfl | exact want_undef (t := 57) rfl (by kernel_rfl) rfl h13))
                  all_goals first
                    | (refine Steps.pure (v := ?_) Keeps.refl rfl (fun f w' hR hV => ⟨?_, ?_⟩) ?_
                       rotate_left
                       · (obtain ⟨h13, _, _⟩ := hV; replace h13 : f 13 = _ := h13; exact want_yes (t := 57) rfl (by kernel_rfl) rfl h13)
                       · (obtain ⟨h13, h16, _⟩ := hV; replace h13 : f 13 = _ := h13; replace h16 : f 16 = _ := h16; go_simp; all_goals (try with_reducible rfl)))
                    | (refine Steps.skip rfl (fun f w' hR hV => ?_) ?_
                       · (obtain ⟨h13, _, _⟩ := hV; replace h13 : f 13 = _ := h13; first | exact want_no (t := 57) rfl (by kernel_rfl) rfl h13 rfl | exact want_undef (t := 57) rfl (by kernel_rfl) rfl h13))
                  all_goals first
                    | (refine Steps.pure (v := ?_) Keeps.refl rfl (fun f w' hR hV => ⟨?_, ?_⟩) ?_
                       rotate_left
                       · (obtain ⟨h13, _, _⟩ := hV; replace h13 : f 13 = _ := h13; exact want_yes (t := 57) rfl (by kernel_rfl) rfl h13)
                       · (obtain ⟨h13, h17, _⟩ := hV; replace h13 : f 13 = _ := h13; replace h17 : f 17 = _ := h17; go_simp; all_goals (try with_reducible rfl)))
                    | (refine Steps.skip rfl (fun f w' hR hV => ?_) ?_
                       · (obtain ⟨h13, _, _⟩ := hV; replace h13 : f 13 = _ := h13; first | exact want_no (t := 57) rfl (by kernel_rfl) rfl h13 rfl | exact want_undef (t := 57) rfl (by kernel_rfl) rfl h13))
                  all_goals first
                    | (refine Steps.pure (v := ?_) Keeps.refl rfl (fun f w' hR hV => ⟨?_, ?_⟩) ?_
                       rotate_left
                       · (obtain ⟨h13, _⟩ := hV; replace h13 : f 13 = _ := h13; exact want_yes (t := 57) rfl (by kernel_rfl) rfl h13)
                       · (obtain ⟨h13, _⟩ := hV; replace h13 : f 13 = _ := h13; go_simp; all_goals (try with_reducible rfl)))
                    | (refine Steps.skip rfl (fun f w' hR hV => ?_) ?_
                       · (obtain ⟨h13, _⟩ := hV; replace h13 : f 13 = _ := h13; first | exact want_no (t := 57) rfl (by kernel_rfl) rfl h13 rfl | exact want_undef (t := 57) rfl (by kernel_rfl) rfl h13))
                  all_goals first
                    | (refine Steps.pure (v := ?_) Keeps.refl rfl (fun f w' hR hV => ⟨?_, ?_⟩) ?_
                       rotate_left
                       · (obtain ⟨h13, _, _⟩ := hV; replace h13 : f 13 = _ := h13; exact want_yes (t := 57) rfl (by kernel_rfl) rfl h13)
                       · (obtain ⟨h13, h19, _⟩ := hV; replace h13 : f 13 = _ := h13; replace h19 : f 19 = _ := h19; go_simp; all_goals (try with_reducible rfl)))
                    | (refine Steps.skip rfl (fun f w' hR hV => ?_) ?_
                       · (obtain ⟨h13, _, _⟩ := hV; replace h13 : f 13 = _ := h13; first | exact want_no (t := 57) rfl (by kernel_rfl) rfl h13 rfl | exact want_undef (t := 57) rfl (by kernel_rfl) rfl h13))
                  all_goals first
                    | (refine Steps.pure (v := ?_) Keeps.refl rfl (fun f w' hR hV => ⟨?_, ?_⟩) ?_
                       rotate_left
                       · (obtain ⟨h13, _, _, _⟩ := hV; replace h13 : f 13 = _ := h13; exact want_yes (t := 57) rfl (by kernel_rfl) rfl h13)
                       · (obtain ⟨h13, h18, h20, _⟩ := hV; replace h13 : f 13 = _ := h13; replace h18 : f 18 = _ := h18; replace h20 : f 20 = _ := h20; go_simp; all_goals (try with_reducible rfl)))
                    | (refine Steps.skip rfl (fun f w' hR hV => ?_) ?_
                       · (obtain ⟨h13, _, _, _⟩ := hV; replace h13 : f 13 = _ := h13; first | exact want_no (t := 57) rfl (by kernel_rfl) rfl h13 rfl | exact want_undef (t := 57) rfl (by kernel_rfl) rfl h13))
                  all_goals first
                    | (refine Steps.pure (v := ?_) Keeps.refl rfl (fun f w' hR hV => ⟨?_, ?_⟩) ?_
                       rotate_left
                       · (obtain ⟨h13, _, _⟩ := hV; replace h13 : f 13 = _ := h13; exact want_yes (t := 57) rfl (by kernel_rfl) rfl h13)
                       · (obtain ⟨h13, h21, _⟩ := hV; replace h13 : f 13 = _ := h13; replace h21 : f 21 = _ := h21; go_simp; all_goals (try with_reducible rfl)))
                    | (refine Steps.skip rfl (fun f w' hR hV => ?_) ?_
                       · (obtain ⟨h13, _, _⟩ := hV; replace h13 : f 13 = _ := h13; first | exact want_no (t := 57) rfl (by kernel_rfl) rfl h13 rfl | exact want_undef (t := 57) rfl (by kernel_rfl) rfl h13))
                  all_goals first
                    | (refine Steps.pure (v := ?_) Keeps.refl rfl (fun f w' hR hV => ⟨?_, ?_⟩) ?_
                       rotate_left
                       · (obtain ⟨h22, _⟩ := hV; replace h22 : f 22 = _ := h22; exact want_yes (t := 66) rfl (by kernel_rfl) rfl h22)
                       · (obtain ⟨h22, _⟩ := hV; replace h22 : f 22 = _ := h22; go_simp; all_goals (try with_reducible rfl)))
                    | (refine Steps.skip rfl (fun f w' hR hV => ?_) ?_
                       · (obtain ⟨h22, _⟩ := hV; replace h22 : f 22 = _ := h22; first | exact want_no (t := 66) rfl (by kernel_rfl) rfl h22 rfl | exact want_undef (t := 66) rfl (by kernel_rfl) rfl h22))
                  all_goals first
                    | (refine Steps.pure (v := ?_) Keeps.refl rfl (fun f w' hR hV => ⟨?_, ?_⟩) ?_
                       rotate_left
                       · (obtain ⟨h22, _⟩ := hV; replace h22 : f 22 = _ := h22; exact want_yes (t := 66) rfl (by kernel_rfl) rfl h22)
                       · (obtain ⟨h22, _⟩ := hV; replace h22 : f 22 = _ := h22; go_simp; all_goals (try with_reducible rfl)))
                    | (refine Steps.skip rfl (fun f w' hR hV => ?_) ?_
                       · (obtain ⟨h22, _⟩ := hV; replace h22 : f 22 = _ := h22; first | exact want_no (t := 66) rfl (by kernel_rfl) rfl h22 rfl | exact want_undef (t := 66) rfl (by kernel_rfl) rfl h22))
                  all_goals first
                    | (refine Steps.pure (v := ?_) Keeps.refl rfl (fun f w' hR hV => ⟨?_, ?_⟩) ?_
                       rotate_left
                       · (obtain ⟨h22, _, _, _⟩ := hV; replace h22 : f 22 = _ := h22; exact want_yes (t := 66) rfl (by kernel_rfl) rfl h22)
                       · (obtain ⟨h22, h23, h24, _⟩ := hV; replace h22 : f 22 = _ := h22; replace h23 : f 23 = _ := h23; replace h24 : f 24 = _ := h24; go_simp; all_goals (try with_reducible rfl)))
                    | (refine Steps.skip rfl (fun f w' hR hV => ?_) ?_
                       · (obtain ⟨h22, _, _, _⟩ := hV; replace h22 : f 22 = _ := h22; first | exact want_no (t := 66) rfl (by kernel_rfl) rfl h22 rfl | exact want_undef (t := 66) rfl (by kernel_rfl) rfl h22))
                  all_goals first
                    | (refine Steps.pure (v := ?_) Keeps.refl rfl (fun f w' hR hV => ⟨?_, ?_⟩) ?_
                       rotate_left
                       · (obtain ⟨h22, _, _⟩ := hV; replace h22 : f 22 = _ := h22; exact want_yes (t := 66) rfl (by kernel_rfl) rfl h22)
                       · (obtain ⟨h22, h25, _⟩ := hV; replace h22 : f 22 = _ := h22; replace h25 : f 25 = _ := h25; go_simp; all_goals (try with_reducible rfl)))
                    | (refine Steps.skip rfl (fun f w' hR hV => ?_) ?_
                       · (obtain ⟨h22, _, _⟩ := hV; replace h22 : f 22 = _ := h22; first | exact want_no (t := 66) rfl (by kernel_rfl) rfl h22 rfl | exact want_undef (t := 66) rfl (by kernel_rfl) rfl h22))
                  all_goals first
                    | (refine Steps.pure (v := ?_) Keeps.refl rfl (fun f w' hR hV => ⟨?_, ?_⟩) ?_
                       rotate_left
                       · (obtain ⟨h22, _, _⟩ := hV; replace h22 : f 22 = _ := h22; exact want_yes (t := 66) rfl (by kernel_rfl) rfl h22)
                       · (obtain ⟨h22, h26, _⟩ := hV; replace h22 : f 22 = _ := h22; replace h26 : f 26 = _ := h26; go_simp; all_goals (try with_reducible rfl)))
                    | (refine Steps.skip rfl (fun f w' hR hV => ?_) ?_
                       · (obtain ⟨h22, _, _⟩ := hV; replace h22 : f 22 = _ := h22; first | exact want_no (t := 66) rfl (by kernel_rfl) rfl h22 rfl | exact want_undef (t := 66) rfl (by kernel_rfl) rfl h22))
                  all_goals first
                    | (refine Steps.pure (v := ?_) Keeps.refl rfl (fun f w' hR hV => ⟨?_, ?_⟩) ?_
                       rotate_left
                       · (obtain ⟨h22, _⟩ := hV; replace h22 : f 22 = _ := h22; exact want_yes (t := 66) rfl (by kernel_rfl) rfl h22)
                       · (obtain ⟨h22, _⟩ := hV; replace h22 : f 22 = _ := h22; go_simp; all_goals (try with_reducible rfl)))
                    | (refine Steps.skip rfl (fun f w' hR hV => ?_) ?_
                       · (obtain ⟨h22, _⟩ := hV; replace h22 : f 22 = _ := h22; first | exact want_no (t := 66) rfl (by kernel_rfl) rfl h22 rfl | exact want_undef (t := 66) rfl (by kernel_rfl) rfl h22))
                  all_goals first
                    | (refine Steps.pure (v := ?_) Keeps.refl rfl (fun f w' hR hV => ⟨?_, ?_⟩) ?_
                       rotate_left
                       · (obtain ⟨h22, _, _⟩ := hV; replace h22 : f 22 = _ := h22; exact want_yes (t := 66) rfl (by kernel_rfl) rfl h22)
                       · (obtain ⟨h22, h28, _⟩ := hV; replace h22 : f 22 = _ := h22; replace h28 : f 28 = _ := h28; go_simp; all_goals (try with_reducible rfl)))
                    | (refine Steps.skip rfl (fun f w' hR hV => ?_) ?_
                       · (obtain ⟨h22, _, _⟩ := hV; replace h22 : f 22 = _ := h22; first | exact want_no (t := 66) rfl (by kernel_rfl) rfl h22 rfl | exact want_undef (t := 66) rfl (by kernel_rfl) rfl h22))
                  all_goals first
                    | (refine Steps.pure (v := ?_) Keeps.refl rfl (fun f w' hR hV => ⟨?_, ?_⟩) ?_
                       rotate_left
                       · (obtain ⟨h22, _, _, _⟩ := hV; replace h22 : f 22 = _ := h22; exact want_yes (t := 66) rfl (by kernel_rfl) rfl h22)
                       · (obtain ⟨h22, h27, h29, _⟩ := hV; replace h22 : f 22 = _ := h22; replace h27 : f 27 = _ := h27; replace h29 : f 29 = _ := h29; go_simp; all_goals (try with_reducible rfl)))
                    | (refine Steps.skip rfl (fun f w' hR hV => ?_) ?_
                       · (obtain ⟨h22, _, _, _⟩ := hV; replace h22 : f 22 = _ := h22; first | exact want_no (t := 66) rfl (by kernel_rfl) rfl h22 rfl | exact want_undef (t := 66) rfl (by kernel_rfl) rfl h22))
                  all_goals first
                    | (refine Steps.pure (v := ?_) Keeps.refl rfl (fun f w' hR hV => ⟨?_, ?_⟩) ?_
                       rotate_left
                       · (obtain ⟨h13, _, _, _⟩ := hV; replace h13 : f 13 = _ := h13; exact want_yes (t := 57) rfl (by kernel_rfl) rfl h13)
                       · (obtain ⟨h13, h22, h30, _⟩ := hV; replace h13 : f 13 = _ := h13; replace h22 : f 22 = _ := h22; replace h30 : f 30 = _ := h30; go_simp; all_goals (try with_reducible rfl)))
                    | (refine Steps.skip rfl (fun f w' hR hV => ?_) ?_
                       · (obtain ⟨h13, _, _, _⟩ := hV; replace h13 : f 13 = _ := h13; first | exact want_no (t := 57) rfl (by kernel_rfl) rfl h13 rfl | exact want_undef (t := 57) rfl (by kernel_rfl) rfl h13))
                  all_goals first
                    | (refine Steps.pure (v := ?_) Keeps.refl rfl (fun f w' hR hV => ⟨?_, ?_⟩) ?_
                       rotate_left
                       · (obtain ⟨h4, _, _, _⟩ := hV; replace h4 : f 4 = _ := h4; exact want_yes (t := 48) rfl (by kernel_rfl) rfl h4)
                       · (obtain ⟨h4, h13, h31, _⟩ := hV; replace h4 : f 4 = _ := h4; replace h13 : f 13 = _ := h13; replace h31 : f 31 = _ := h31; go_simp; all_goals (try with_reducible rfl)))
                    | (refine Steps.skip rfl (fun f w' hR hV => ?_) ?_
                       · (obtain ⟨h4, _, _, _⟩ := hV; replace h4 : f 4 = _ := h4; first | exact want_no (t := 48) rfl (by kernel_rfl) rfl h4 rfl | exact want_undef (t := 48) rfl (by kernel_rfl) rfl h4))
                  all_goals (
                    refine Steps.pure (v := ?_) Keeps.refl rfl (fun f w' hR hV => ⟨?_, ?_⟩) ?_
                    rotate_left
                    · (rfl)
                    · (obtain ⟨h4, h32, _⟩ := hV; replace h4 : f 4 = _ := h4; replace h32 : f 32 = _ := h32; go_simp; all_goals (try with_reducible rfl)))
                  all_goals (refine Steps.done [33] (by kernel_rfl) rfl (fun f wq hR hV => ?_); obtain ⟨h33, _⟩ := hV; replace h33 : f 33 = _ := h33; simp only [h33])
                  go_wp2_with fail
                  go_meet
                  exact ⟨rfl, Lib.hid ((Keeps.refl wd).drew.trans hR)⟩
              case rest =>
                obtain ⟨rfl, HC⟩ := hcut
                obtain ⟨we, rfl⟩ : ∃ we : World, we = wc := ⟨_, rfl⟩
                have HKE : Hid (Keeps wb we) := Lib.hid (HKN.out.trans HC.out)
                clear hbq HC
                cases bq with
                | true =>
                  have hnn : n < g.length := (of_decide_eq_true HBQ.out.symm).1
                  have HB5 : Hid (∀ q ∈ g.take (n + 1), PrLt q x) := Lib.hid (fun q hq => by
                    rw [take_snoc _ n hnn] at hq
                    rcases List.mem_append.1 hq with h | h
                    · exact HB4.out q h
                    · rw [List.mem_singleton.1 h]; exact (of_decide_eq_true HBQ.out.symm).2)
                  go_wp2_with fail
                  go_roundw
                  case rel => exact ⟨n + 1, by omega, by go_num, HKE, HB5⟩
                  case measure => simp [intOf]; omega
                | false =>
                  have HN0 : Hid (∀ h : n < g.length, ¬ PrLt g[n] x) := Lib.hid (fun h h2 => (of_decide_eq_false HBQ.out.symm) ⟨h, h2⟩)
                  have HI := Lib.hid (insU_at hnM HB4.out HN0.out)
                  obtain ⟨bp, hbp⟩ : ∃ bp : Bool, bp = decide (¬ ∃ h : n < g.length, g[n] = x) := ⟨_, rfl⟩
                  have HBP := Lib.hid hbp
                  clear HBQ
                  go_upto_region 11 with (fail)
                  go_cut [91] from 80 to 91 (fun v wx => v = .bool bp ∧ Hid (Keeps we wx))
                  case first =>
                    by_cases hlt2 : n < g.length
                    · have hix4 := Sl.at (show Recs wa 2 Pr.cells ao3 g cap3 b3 0 from HS3.out) Try.underlying64 Try.sizeOf66 n hlt2
                      simp only [Nat.zero_add] at hix4
                      obtain ⟨q, hq⟩ : ∃ q, g[n] = q := ⟨_, rfl⟩
                      have HX : Hid (∀ W, Keeps we.drew W → W.cell? ⟨b3, n * 2, none⟩ = some (.int .i64 q.a) ∧ W.cell? ⟨b3, n * 2 + 1, none⟩ = some (.int .i64 q.b) ∧ W.cell? ⟨wa.heap.size, 0, none⟩ = some (.int .i64 x.a) ∧ W.cell? ⟨wa.heap.size, 1, none⟩ = some (.int .i64 x.b)) := Lib.hid (fun W hW => by
                        have hr : Recs W 2 Pr.cells ao3 g cap3 b3 0 := HS3.out.keeps (HKB.out.trans (HKE.out.drew.trans hW))
                        have h0 := hr.cell Pr.len n hlt2 0 (.int .i64 q.a) (by rw [hq]; rfl)
                        have h1 := hr.cell Pr.len n hlt2 1 (.int .i64 q.b) (by rw [hq]; rfl)
                        simp only [Nat.zero_add, Nat.add_zero] at h0 h1
                        exact ⟨h0, h1, HXB.out W (HKE.out.drew.trans hW)⟩)
                      have hdl : ((n : Int) == (g.length : Int)) = false := by
                        rw [beq_eq_false_iff_ne]; omega
                      have hnq : ∀ w, (binOp .neq 66 (.agg #[.int .i64 q.a, .int .i64 q.b]) (.agg #[.int .i64 x.a, .int .i64 x.b])).run Try.prog w = .ok (.bool bp) w := fun w => by
                        rw [neqPr, hbp]
                        congr 2
                        refine decide_eq_decide.2 ⟨fun h ⟨_, h2⟩ => h (hq ▸ h2), fun h h2 => h ⟨hlt2, hq.trans h2⟩⟩
                      clear hbp HBP hq
                      go_wp2_with fail
                      refine wp_region_steps (A := ?_) Keeps [some 80, some 81, some 82, some 83, some 84, some 85, some 86, some 87, some 88, some 89, some 90, some 91] [[], [], [1], [0, 2], [3], [4], [4], [4, 5, 6], [4, 7], [4], [4, 8, 9], [4, 10]] 12 (by kernel_rfl) (by kernel_rfl) (by kernel_rfl) (by kernel_rfl) (by kernel_rfl) (by kernel_rfl) Keeps.refl (fun _ _ _ => Keeps.trans) ?_ ?_
                      rotate_left
                      · intro f; simp only [putL, Act.put, List.setIfInBounds_toArray, List.set_cons_zero, List.set_cons_succ, Nat.zero_add, Nat.reduceAdd]; exact rfl
                      refine Steps.pure (v := ?_) Keeps.refl rfl (fun f w' hR hV => ⟨?_, ?_⟩) ?_
                      rotate_left
                      · (rfl)
                      · (clear hV; obtain ⟨x0, x1, z0, z1⟩ := HX.out _ hR; go_simp; all_goals (try with_reducible rfl))
                      refine Steps.pure (v := ?_) Keeps.refl rfl (fun f w' hR hV => ⟨?_, ?_⟩) ?_
                      rotate_left
                      · (rfl)
                      · (clear hV; obtain ⟨x0, x1, z0, z1⟩ := HX.out _ hR; go_simp; all_goals (try with_reducible rfl))
                      refine Steps.pure (v := ?_) Keeps.refl rfl (fun f w' hR hV => ⟨?_, ?_⟩) ?_
                      rotate_left
                      · (rfl)
                      · (obtain ⟨h1, _⟩ := hV; replace h1 : f 1 = _ := h1; obtain ⟨x0, x1, z0, z1⟩ := HX.out _ hR; go_simp; all_goals (try with_reducible rfl))
                      refine Steps.pure (v := ?_) Keeps.refl rfl (fun f w' hR hV => ⟨?_, ?_⟩) ?_
                      rotate_left
                      · (rfl)
                      · (obtain ⟨h0, h2, _⟩ := hV; replace h0 : f 0 = _ := h0; replace h2 : f 2 = _ := h2; obtain ⟨x0, x1, z0, z1⟩ := HX.out _ hR; go_simp; all_goals (try with_reducible rfl))
                      refine Steps.pure (v := ?_) Keeps.refl rfl (fun f w' hR hV => ⟨?_, ?_⟩) ?_
                      rotate_left
                      · (rfl)
                      · (obtain ⟨h3, _⟩ := hV; replace h3 : f 3 = _ := h3; obtain ⟨x0, x1, z0, z1⟩ := HX.out _ hR; go_simp; all_goals (try with_reducible rfl))
                      all_goals first
                        | (refine Steps.pure (v := ?_) Keeps.refl rfl (fun f w' hR hV => ⟨?_, ?_⟩) ?_
                           rotate_left
                           · (obtain ⟨h4, _⟩ := hV; replace h4 : f 4 = _ := h4; exact want_yes (t := 84) rfl (by kernel_rfl) rfl h4)
                           · (obtain ⟨h4, _⟩ := hV; replace h4 : f 4 = _ := h4; obtain ⟨x0, x1, z0, z1⟩ := HX.out _ hR; go_simp; all_goals (try with_reducible rfl)))
                        | (refine Steps.skip rfl (fun f w' hR hV => ?_) ?_
                           · (obtain ⟨h4, _⟩ := hV; replace h4 : f 4 = _ := h4; first | exact want_no (t := 84) rfl (by kernel_rfl) rfl h4 rfl | exact want_undef (t := 84) rfl (by kernel_rfl) rfl h4))
                      all_goals first
                        | (refine Steps.pure (v := ?_) Keeps.refl rfl (fun f w' hR hV => ⟨?_, ?_⟩) ?_
                           rotate_left
                           · (obtain ⟨h4, _⟩ := hV; replace h4 : f 4 = _ := h4; exact want_yes (t := 84) rfl (by kernel_rfl) rfl h4)
                           · (obtain ⟨h4, _⟩ := hV; replace h4 : f 4 = _ := h4; obtain ⟨x0, x1, z0, z1⟩ := HX.out _ hR; go_simp; all_goals (try with_reducible rfl)))
                        | (refine Steps.skip rfl (fun f w' hR hV => ?_) ?_
                           · (obtain ⟨h4, _⟩ := hV; replace h4 : f 4 = _ := h4; first | exact want_no (t := 84) rfl (by kernel_rfl) rfl h4 rfl | exact want_undef (t := 84) rfl (by kernel_rfl) rfl h4))
                      all_goals first
                        | (refine Steps.pure (v := ?_) Keeps.refl rfl (fun f w' hR hV => ⟨?_, ?_⟩) ?_
                           rotate_left
                           · (obtain ⟨h4, _, _, _⟩ := hV; replace h4 : f 4 = _ := h4; exact want_yes (t := 84) rfl (by kernel_rfl) rfl h4)
                           · (obtain ⟨h4, h5, h6, _⟩ := hV; replace h4 : f 4 = _ := h4; replace h5 : f 5 = _ := h5; replace h6 : f 6 = _ := h6; obtain ⟨x0, x1, z0, z1⟩ := HX.out _ hR; go_simp; all_goals (try with_reducible rfl)))
                        | (refine Steps.skip rfl (fun f w' hR hV => ?_) ?_
                           · (obtain ⟨h4, _, _, _⟩ := hV; replace h4 : f 4 = _ := h4; first | exact want_no (t := 84) rfl (by kernel_rfl) rfl h4 rfl | exact want_undef (t := 84) rfl (by kernel_rfl) rfl h4))
                      all_goals first
                        | (refine Steps.pure (v := ?_) Keeps.refl rfl (fun f w' hR hV => ⟨?_, ?_⟩) ?_
                           rotate_left
                           · (obtain ⟨h4, _, _⟩ := hV; replace h4 : f 4 = _ := h4; exact want_yes (t := 84) rfl (by kernel_rfl) rfl h4)
                           · (obtain ⟨h4, h7, _⟩ := hV; replace h4 : f 4 = _ := h4; replace h7 : f 7 = _ := h7; obtain ⟨x0, x1, z0, z1⟩ := HX.out _ hR; go_simp; all_goals (try with_reducible rfl)))
                        | (refine Steps.skip rfl (fun f w' hR hV => ?_) ?_
                           · (obtain ⟨h4, _, _⟩ := hV; replace h4 : f 4 = _ := h4; first | exact want_no (t := 84) rfl (by kernel_rfl) rfl h4 rfl | exact want_undef (t := 84) rfl (by kernel_rfl) rfl h4))
                      all_goals first
                        | (refine Steps.pure (v := ?_) Keeps.refl rfl (fun f w' hR hV => ⟨?_, ?_⟩) ?_
                           rotate_left
                           · (obtain ⟨h4, _⟩ := hV; replace h4 : f 4 = _ := h4; exact want_yes (t := 84) rfl (by kernel_rfl) rfl h4)
                           · (obtain ⟨h4, _⟩ := hV; replace h4 : f 4 = _ := h4; obtain ⟨x0, x1, z0, z1⟩ := HX.out _ hR; go_simp; all_goals (try with_reducible rfl)))
                        | (refine Steps.skip rfl (fun f w' hR hV => ?_) ?_
                           · (obtain ⟨h4, _⟩ := hV; replace h4 : f 4 = _ := h4; first | exact want_no (t := 84) rfl (by kernel_rfl) rfl h4 rfl | exact want_undef (t := 84) rfl (by kernel_rfl) rfl h4))
                      all_goals first
                        | (refine Steps.pure (v := ?_) Keeps.refl rfl (fun f w' hR hV => ⟨?_, ?_⟩) ?_
                           rotate_left
                           · (obtain ⟨h4, _, _, _⟩ := hV; replace h4 : f 4 = _ := h4; exact want_yes (t := 84) rfl (by kernel_rfl) rfl h4)
                           · (obtain ⟨h4, h8, h9, _⟩ := hV; replace h4 : f 4 = _ := h4; replace h8 : f 8 = _ := h8; replace h9 : f 9 = _ := h9; obtain ⟨x0, x1, z0, z1⟩ := HX.out _ hR; go_simp; all_goals (try with_reducible rfl)))
                        | (refine Steps.skip rfl (fun f w' hR hV => ?_) ?_
                           · (obtain ⟨h4, _, _, _⟩ := hV; replace h4 : f 4 = _ := h4; first | exact want_no (t := 84) rfl (by kernel_rfl) rfl h4 rfl | exact want_undef (t := 84) rfl (by kernel_rfl) rfl h4))
                      all_goals (
                        refine Steps.pure (v := ?_) Keeps.refl rfl (fun f w' hR hV => ⟨?_, ?_⟩) ?_
                        rotate_left
                        · (rfl)
                        · (obtain ⟨h4, h10, _⟩ := hV; replace h4 : f 4 = _ := h4; replace h10 : f 10 = _ := h10; obtain ⟨x0, x1, z0, z1⟩ := HX.out _ hR; go_simp; all_goals (try with_reducible rfl)))
                      all_goals (refine Steps.done [11] (by kernel_rfl) rfl (fun f wq hR hV => ?_); obtain ⟨h11, _⟩ := hV; replace h11 : f 11 = _ := h11; simp only [h11])
                      go_wp2_with fail
                      go_meet
                      exact ⟨rfl, Lib.hid ((Keeps.refl we).drew.trans hR)⟩
                    · have hdl : ((n : Int) == (g.length : Int)) = true := by
                        rw [beq_iff_eq]; omega
                      have hbt : bp = true := by rw [hbp]; exact decide_eq_true (fun ⟨h, _⟩ => hlt2 h)
                      clear hbp HBP
                      subst hbt
                      go_wp2_with fail
                      refine wp_region_steps (A := ?_) Keeps [some 80, some 81, some 82, some 83, some 84, some 85, some 86, some 87, some 88, some 89, some 90, some 91] [[], [], [1], [0, 2], [3], [4], [4], [4, 5, 6], [4, 7], [4], [4, 8, 9], [4, 10]] 12 (by kernel_rfl) (by kernel_rfl) (by kernel_rfl) (by kernel_rfl) (by kernel_rfl) (by kernel_rfl) Keeps.refl (fun _ _ _ => Keeps.trans) ?_ ?_
                      rotate_left
                      · intro f; simp only [putL, Act.put, List.setIfInBounds_toArray, List.set_cons_zero, List.set_cons_succ, Nat.zero_add, Nat.reduceAdd]; exact rfl
                      refine Steps.pure (v := ?_) Keeps.refl rfl (fun f w' hR hV => ⟨?_, ?_⟩) ?_
                      rotate_left
                      · (rfl)
                      · (clear hV; go_simp; all_goals (try with_reducible rfl))
                      refine Steps.pure (v := ?_) Keeps.refl rfl (fun f w' hR hV => ⟨?_, ?_⟩) ?_
                      rotate_left
                      · (rfl)
                      · (clear hV; go_simp; all_goals (try with_reducible rfl))
                      refine Steps.pure (v := ?_) Keeps.refl rfl (fun f w' hR hV => ⟨?_, ?_⟩) ?_
                      rotate_left
                      · (rfl)
                      · (obtain ⟨h1, _⟩ := hV; replace h1 : f 1 = _ := h1; go_simp; all_goals (try with_reducible rfl))
                      refine Steps.pure (v := ?_) Keeps.refl rfl (fun f w' hR hV => ⟨?_, ?_⟩) ?_
                      rotate_left
                      · (rfl)
                      · (obtain ⟨h0, h2, _⟩ := hV; replace h0 : f 0 = _ := h0; replace h2 : f 2 = _ := h2; go_simp; all_goals (try with_reducible rfl))
                      refine Steps.pure (v := ?_) Keeps.refl rfl (fun f w' hR hV => ⟨?_, ?_⟩) ?_
                      rotate_left
                      · (rfl)
                      · (obtain ⟨h3, _⟩ := hV; replace h3 : f 3 = _ := h3; go_simp; all_goals (try with_reducible rfl))
                      all_goals first
                        | (refine Steps.pure (v := ?_) Keeps.refl rfl (fun f w' hR hV => ⟨?_, ?_⟩) ?_
                           rotate_left
                           · (obtain ⟨h4, _⟩ := hV; replace h4 : f 4 = _ := h4; exact want_yes (t := 84) rfl (by kernel_rfl) rfl h4)
                           · (obtain ⟨h4, _⟩ := hV; replace h4 : f 4 = _ := h4; go_simp; all_goals (try with_reducible rfl)))
                        | (refine Steps.skip rfl (fun f w' hR hV => ?_) ?_
                           · (obtain ⟨h4, _⟩ := hV; replace h4 : f 4 = _ := h4; first | exact want_no (t := 84) rfl (by kernel_rfl) rfl h4 rfl | exact want_undef (t := 84) rfl (by kernel_rfl) rfl h4))
                      all_goals first
                        | (refine Steps.pure (v := ?_) Keeps.refl rfl (fun f w' hR hV => ⟨?_, ?_⟩) ?_
                           rotate_left
                           · (obtain ⟨h4, _⟩ := hV; replace h4 : f 4 = _ := h4; exact want_yes (t := 84) rfl (by kernel_rfl) rfl h4)
                           · (obtain ⟨h4, _⟩ := hV; replace h4 : f 4 = _ := h4; go_simp; all_goals (try with_reducible rfl)))
                        | (refine Steps.skip rfl (fun f w' hR hV => ?_) ?_
                           · (obtain ⟨h4, _⟩ := hV; replace h4 : f 4 = _ := h4; first | exact want_no (t := 84) rfl (by kernel_rfl) rfl h4 rfl | exact want_undef (t := 84) rfl (by kernel_rfl) rfl h4))
                      all_goals first
                        | (refine Steps.pure (v := ?_) Keeps.refl rfl (fun f w' hR hV => ⟨?_, ?_⟩) ?_
                           rotate_left
                           · (obtain ⟨h4, _, _, _⟩ := hV; replace h4 : f 4 = _ := h4; exact want_yes (t := 84) rfl (by kernel_rfl) rfl h4)
                           · (obtain ⟨h4, h5, h6, _⟩ := hV; replace h4 : f 4 = _ := h4; replace h5 : f 5 = _ := h5; replace h6 : f 6 = _ := h6; go_simp; all_goals (try with_reducible rfl)))
                        | (refine Steps.skip rfl (fun f w' hR hV => ?_) ?_
                           · (obtain ⟨h4, _, _, _⟩ := hV; replace h4 : f 4 = _ := h4; first | exact want_no (t := 84) rfl (by kernel_rfl) rfl h4 rfl | exact want_undef (t := 84) rfl (by kernel_rfl) rfl h4))
                      all_goals first
                        | (refine Steps.pure (v := ?_) Keeps.refl rfl (fun f w' hR hV => ⟨?_, ?_⟩) ?_
                           rotate_left
                           · (obtain ⟨h4, _, _⟩ := hV; replace h4 : f 4 = _ := h4; exact want_yes (t := 84) rfl (by kernel_rfl) rfl h4)
                           · (obtain ⟨h4, h7, _⟩ := hV; replace h4 : f 4 = _ := h4; replace h7 : f 7 = _ := h7; go_simp; all_goals (try with_reducible rfl)))
                        | (refine Steps.skip rfl (fun f w' hR hV => ?_) ?_
                           · (obtain ⟨h4, _, _⟩ := hV; replace h4 : f 4 = _ := h4; first | exact want_no (t := 84) rfl (by kernel_rfl) rfl h4 rfl | exact want_undef (t := 84) rfl (by kernel_rfl) rfl h4))
                      all_goals first
                        | (refine Steps.pure (v := ?_) Keeps.refl rfl (fun f w' hR hV => ⟨?_, ?_⟩) ?_
                           rotate_left
                           · (obtain ⟨h4, _⟩ := hV; replace h4 : f 4 = _ := h4; exact want_yes (t := 84) rfl (by kernel_rfl) rfl h4)
                           · (obtain ⟨h4, _⟩ := hV; replace h4 : f 4 = _ := h4; go_simp; all_goals (try with_reducible rfl)))
                        | (refine Steps.skip rfl (fun f w' hR hV => ?_) ?_
                           · (obtain ⟨h4, _⟩ := hV; replace h4 : f 4 = _ := h4; first | exact want_no (t := 84) rfl (by kernel_rfl) rfl h4 rfl | exact want_undef (t := 84) rfl (by kernel_rfl) rfl h4))
                      all_goals first
                        | (refine Steps.pure (v := ?_) Keeps.refl rfl (fun f w' hR hV => ⟨?_, ?_⟩) ?_
                           rotate_left
                           · (obtain ⟨h4, _, _, _⟩ := hV; replace h4 : f 4 = _ := h4; exact want_yes (t := 84) rfl (by kernel_rfl) rfl h4)
                           · (obtain ⟨h4, h8, h9, _⟩ := hV; replace h4 : f 4 = _ := h4; replace h8 : f 8 = _ := h8; replace h9 : f 9 = _ := h9; go_simp; all_goals (try with_reducible rfl)))
                        | (refine Steps.skip rfl (fun f w' hR hV => ?_) ?_
                           · (obtain ⟨h4, _, _, _⟩ := hV; replace h4 : f 4 = _ := h4; first | exact want_no (t := 84) rfl (by kernel_rfl) rfl h4 rfl | exact want_undef (t := 84) rfl (by kernel_rfl) rfl h4))
                      all_goals (
                        refine Steps.pure (v := ?_) Keeps.refl rfl (fun f w' hR hV => ⟨?_, ?_⟩) ?_
                        rotate_left
                        · (rfl)
                        · (obtain ⟨h4, h10, _⟩ := hV; replace h4 : f 4 = _ := h4; replace h10 : f 10 = _ := h10; go_simp; all_goals (try with_reducible rfl)))
                      all_goals (refine Steps.done [11] (by kernel_rfl) rfl (fun f wq hR hV => ?_); obtain ⟨h11, _⟩ := hV; replace h11 : f 11 = _ := h11; simp only [h11])
                      go_wp2_with fail
                      go_meet
                      exact ⟨rfl, Lib.hid ((Keeps.refl we).drew.trans hR)⟩
                  case rest =>
                    obtain ⟨rfl, HC⟩ := hcut
                    obtain ⟨wz, rfl⟩ : ∃ wz : World, wz = wc := ⟨_, rfl⟩
                    have HKZ : Hid (Keeps wa wz) := Lib.hid (HKB.out.trans (HKE.out.trans HC.out))
                    have HPZ : Hid (∀ W, Keeps wz W → W.cell? ⟨wa.heap.size, 0, none⟩ = some (.int .i64 x.a) ∧ W.cell? ⟨wa.heap.size, 1, none⟩ = some (.int .i64 x.b)) := Lib.hid (fun W hW => HXB.out W ((HKE.out.trans HC.out).trans hW))
                    clear hbp HC
                    cases bp with
                    | false =>
                      have HI2 : Hid (insU x g = g) := Lib.hid (by rw [HI.out, if_pos (by have := of_decide_eq_false HBP.out.symm; exact Classical.not_not.1 this)])
                      go_wp2_with fail
                      go_roundw
                      case rel => exact ⟨i + 1, g, by omega, by omega, by go_num, Lib.hid (by rw [HG2.out, HI2.out]), Lib.hid ⟨HW.out.1.trans HKZ.out, own_keepsP HW.out.2 HKZ.out⟩⟩
                      case measure => simp [intOf]; omega
                    | true =>
                      have HP : Hid (insU x g = g.take n ++ [x] ++ g.drop n) := Lib.hid (by rw [HI.out, if_neg (of_decide_eq_true HBP.out.symm)])
                      obtain ⟨x0, x1⟩ := HPZ.out _ (Keeps.refl wz)
                      have hbz := World.block_lt_of_cell? _ _ x0
                      simp only at hbz
                      have HSZ : Hid (Sl wz 2 ao3 g.length cap3 b3 0 (g.flatMap Pr.cells)) := Lib.hid (HS3.out.keeps HKZ.out)
                      obtain ⟨ao5, hcf, hs5⟩ := Sl.cutFrom HSZ.out Try.underlying64 Try.sizeOf66 n hnM
                      have hct := run_cutTo Try.underlying64 Try.sizeOf66 ao3 g.length cap3 n (by omega) hcap3
                      have HS5 := Lib.hid hs5
                      have HS1 := Lib.hid (Sl.take HSZ.out n hnM)
                      have HO1 : Hid (∀ u ∈ (g.flatMap Pr.cells).take (n * 2), u.oneCell' = true) := Lib.hid (fun u hu => ones_pr g u (List.mem_of_mem_take hu))
                      have HO2 : Hid (∀ u ∈ (g.flatMap Pr.cells).drop (n * 2), u.oneCell' = true) := Lib.hid (fun u hu => ones_pr g u (List.mem_of_mem_drop hu))
                      clear hs5 x0 x1 HBP HI HN0
                      go_wp2_with fail
                      go_region_held3 (fun w' => w'.cell? ⟨wa.heap.size, 0, none⟩ = some (.int .i64 x.a) ∧ w'.cell? ⟨wa.heap.size, 1, none⟩ = some (.int .i64 x.b))
                        (first | exact (HPZ.out _ hk3) | exact (HPZ.out _ hk2) | exact (HPZ.out _ hk1) | exact (HPZ.out _ (hk1.alloc _)) | exact (HPZ.out _ (Keeps.refl wz).drew) | exact (HPZ.out _ ((Keeps.refl wz).alloc _).drew) | exact (HPZ.out _ (((Keeps.refl wz).alloc _).alloc _).drew))
                        (first | (guard_hyp hown2 : _; refine step_all_raw elemPrR rfl (.tmp 99) (.tmp 102) rfl v2 (n + 1) _ (by rfl) wz.heap.size hown2 hz2 ao5 (g.length - n) (cap3 - n) b3 (0 + n * 2) ((g.flatMap Pr.cells).drop (n * 2)) (by rfl) (HS5.out.keeps hk2) HO2.out (by omega) (by omega) ?_; intro v3 w3' hown3 hgrow3 hat3; have hk3 : Keeps wz w3' := Below.grown hk2 hgrow3 hk2.size (fun j hj => (hown2.lt j hj).1)) | (guard_hyp hown1 : _; refine step_all_raw elemPrR rfl (.tmp 96) (.tmp 98) rfl v1 n _ (by rfl) wz.heap.size (by first | exact hown1 | exact hown1.alloc _) (by first | omega | (simp; omega)) _ 1 1 _ 0 [.int .i64 x.a, .int .i64 x.b] (by rfl) (by exact Sl.block rfl (fun j u hj => by first | exact cell_newx (by simp) hj | (exact hgrow1.cell (cell_newx (by simp) hj) (by simp [Act.eval, Value.ownBlock])) | (exact hgrow1.cell (Keeps.cell ((Keeps.refl _).alloc _) (cell_newx (by simp) hj)) (by simp [Act.eval, Value.ownBlock])))) (by intro u hu; simp at hu; rcases hu with rfl | rfl <;> rfl) (by omega) (by omega) ?_; intro v2 w2' hown2 hgrow2 hat2; have hk2 : Keeps wz w2' := (by first | exact Below.grown hk1 hgrow2 hk1.size (fun j hj => (hown1.lt j hj).1) | exact Below.grown (Keeps.alloc hk1 _) hgrow2 (by simp; omega) (fun j hj => (hown1.lt j hj).1)); have hz2 := hk2.size) | (refine step_all_raw elemPrR rfl (.tmp 92) (.tmp 95) rfl _ 0 [] (by rfl) wz.heap.size (by first | exact own_emptyx (by simp) (by simp) | exact (own_emptyx (by simp) (by simp)).alloc _) (by first | (simp; done) | (simp; omega)) ao3 n cap3 b3 0 ((g.flatMap Pr.cells).take (n * 2)) (by rfl) (by first | exact HS1.out.keeps ((Keeps.refl wz).alloc _).drew | exact HS1.out.keeps (((Keeps.refl wz).alloc _).alloc _).drew) HO1.out (by omega) (by omega) ?_; intro v1 w1' hown1 hgrow1 hat1; rw [Nat.zero_add, List.nil_append] at hown1; have hk1 : Keeps wz w1' := (by first | exact Below.grown ((Keeps.refl wz).alloc _).drew hgrow1 (by first | (simp; done) | (simp; omega)) (fun j hj => by simp [Act.eval, Value.ownBlock] at hj; omega) | exact Below.grown (((Keeps.refl wz).alloc _).alloc _).drew hgrow1 (by first | (simp; done) | (simp; omega)) (fun j hj => by simp [Act.eval, Value.ownBlock] at hj; omega)); have hz1 := hk1.size))
                      all_goals
                        have HR3 : Hid (w3'.ownsRow w1.heap.size 66 2 v3 (insU x g).length ((insU x g).flatMap Pr.cells)) := Lib.hid (by
                          have h := own_baseP hown3 (Nat.le_trans HW.out.1.size HKZ.out.size)
                          rw [show n + 1 + (g.length - n) = g.length + 1 from by omega] at h
                          have e1 : (insU x g).length = g.length + 1 := by rw [HP.out, List.length_append, List.length_append, List.length_take, List.length_drop, List.length_singleton]; omega
                          have e2 : (insU x g).flatMap Pr.cells = (g.flatMap Pr.cells).take (n * 2) ++ [.int .i64 x.a, .int .i64 x.b] ++ (g.flatMap Pr.cells).drop (n * 2) := by
                            rw [HP.out, List.flatMap_append, List.flatMap_append, flat_takeP Pr.len, flat_dropP Pr.len]; rfl
                          rw [e1, e2]; exact h)
                        have HKK := Lib.hid hk3
                        clear hown1 hgrow1 hat1 hk1 hz1 hown2 hgrow2 hat2 hk2 hz2 hown3 hgrow3 hat3 hk3
                        go_wp2_with fail
                        go_roundw
                        case rel => exact ⟨i + 1, insU x g, by omega, by have := insU_len (x := x) (l := g); omega, by go_num, Lib.hid HG2.out.symm, Lib.hid ⟨HW.out.1.trans (HKZ.out.trans HKK.out), HR3.out⟩⟩
                        case measure => simp [intOf]; omega
          · have ec2 : decide (date < p.y.x.date) = true := decide_eq_true (by omega)
            rw [decide_eq_false hc2, if_neg (by simp)] at HG2
            clear hc2
            go_wp2_with fail
            go_roundw
            case rel => exact ⟨i + 1, g, by omega, by omega, by go_num, Lib.hid HG2.out.symm, Lib.hid ⟨HW.out.1.trans HKB.out, own_keepsP HW.out.2 HKB.out⟩⟩
            case measure => simp [intOf]; omega
    · obtain rfl : i = P.length := by omega
      have HGF : Hid (g = pairsR ((P.filter (keepQ date)).map RP.pr)) := Lib.hid (by have := HG.out; rwa [List.take_length] at this)
      go_wp2_with fail
      go_ret
      refine ⟨_, rfl, ?_, HKP.out.trans HW.out.1⟩
      rw [← HGF.out]
      exact own_baseP HW.out.2 HKP.out.size
end Go.Proofs.Ytfddhmhagijodaa
