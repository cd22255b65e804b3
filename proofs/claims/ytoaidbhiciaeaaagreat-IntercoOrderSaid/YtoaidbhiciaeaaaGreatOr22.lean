/- Walks and plain facts that the claim rests on (MchS). No condition. -/
import Derived.Test.YtoaidbhiciaeaaaGreatOr21
section
namespace Go.Proofs.YtoaidbhiciaeaaaGreat
open Go.RowKit
set_option linter.unusedSimpArgs false
set_option linter.unusedVariables false
set_option maxRecDepth 100000 in
set_option maxHeartbeats 8000000 in
theorem sides_any (bv : List Value) (es : List JV) (ms : List MV) (m : Mt) (aoL : Option Addr) (capL bL oL : Nat) (aoR : Option Addr) (capR bR oR : Nat) (w : World) (H : Bks w bv es ms) (hm : ∀ e ∈ es, e.x.lines.length ≤ 8)
    (HL : Recs w 2 Rf.cells aoL m.left capL bL oL) (HR : Recs w 2 Rf.cells aoR m.right capR bR oR) (h1 : m.left.length ≤ 400) (h2 : m.right.length ≤ 400) (hmo : m.Ok) :
    Calls Tryz.prog 76 #[.agg bv.toArray, .agg #[.int .i64 m.id, .slice aoL m.left.length capL, .slice aoR m.right.length capR, .int .i64 m.state]] w fun e w' => e = .returned (.tuple #[.int .i64 (sidesR es m).1, .int .i64 (sidesR es m).2.1, .int .i64 (sidesR es m).2.2]) ∧ Keeps w w' := by
  have hmm := @run_makeMap Tryz.prog
  have HBL := Lib.hid H.len
  have HE1 : Hid (∀ W, Keeps w W → Calls Tryz.prog 116 #[.agg bv.toArray, .slice aoL m.left.length capL] W fun e w' => e = .returned (.tuple #[.int .i64 (entP es m.left).1, .int .i64 (entP es m.left).2.1, .bool (entP es m.left).2.2]) ∧ Keeps W w') := Lib.hid (fun W hk => entP_any bv es ms m.left aoL capL bL oL W (H.keeps hk) hm (HL.keeps hk))
  have HE2 : Hid (∀ W, Keeps w W → Calls Tryz.prog 116 #[.agg bv.toArray, .slice aoR m.right.length capR] W fun e w' => e = .returned (.tuple #[.int .i64 (entP es m.right).1, .int .i64 (entP es m.right).2.1, .bool (entP es m.right).2.2]) ∧ Keeps W w') := Lib.hid (fun W hk => entP_any bv es ms m.right aoR capR bR oR W (H.keeps hk) hm (HR.keeps hk))
  have HCC : Hid (∀ W ao cap b o, Keeps w W → Sl W 1 ao 2 cap b o [.slice aoL m.left.length capL, .slice aoR m.right.length capR] → Calls Tryz.prog 70 #[.slice ao 2 cap] W fun e w' => ∃ v, e = .returned v ∧ w'.ownsRow W.heap.size 51 2 v (m.left ++ m.right).length ((m.left ++ m.right).flatMap Rf.cells) ∧ Keeps W w') := Lib.hid (fun W ao cap b o hk hs => concat_any m.left m.right aoL capL bL oL aoR capR bR oR ao cap b o W (HL.keeps hk) (HR.keeps hk) hs h1 h2)
  have hpo : pairOk es m = ((entP es m.left).2.2 && ((entP es m.right).2.2 && ((entP es m.left).1 != (entP es m.right).1 && ((entP es m.left).2.1 == (entP es m.right).1 && ((entP es m.right).2.1 == (entP es m.left).1 && (decide (1 ≤ m.state) && decide (m.state ≤ 5))))))) := rfl
  have HG0 : Hid (pairOk es m = true → (m.left ++ m.right).Nodup → sidesR es m = ((entP es m.left).1, (entP es m.right).1, 0)) := Lib.hid sidesR_good
  obtain ⟨⟨x, px, q1⟩, hx⟩ : ∃ q, entP es m.left = q := ⟨_, rfl⟩
  obtain ⟨⟨y, py, q2⟩, hy⟩ : ∃ q, entP es m.right = q := ⟨_, rfl⟩
  rw [hx] at HE1 hpo HG0
  rw [hy] at HE2 hpo HG0
  simp only at HE1 HE2 hpo HG0
  have HLN : Hid ((m.left ++ m.right).length ≤ 800) := Lib.hid (by rw [List.length_append]; omega)
  have HOK : Hid (∀ r ∈ m.left ++ m.right, r.Ok) := Lib.hid (fun r hr => (List.mem_append.1 hr).elim (hmo.1 r) (hmo.2 r))
  have hrg := box_range w bv 36
  have hk0 : Keeps w (w.alloc (.cells bv.toArray 36)) := (Keeps.refl w).alloc _
  obtain ⟨W1, hW1⟩ : ∃ W1, w.alloc (.cells bv.toArray 36) = W1 := ⟨_, rfl⟩
  have hz1 : w.heap.size + 1 = W1.heap.size := by rw [← hW1]; simp
  rw [hW1] at hrg hk0
  have HW1 := Lib.hid hk0
  have HRG : Hid (∀ W, Keeps W1 W → W.rangeAt w.heap.size 0 bv) := Lib.hid (fun W hk => range_keeps hrg hk)
  clear H HL HR hrg hk0 hx hy h1 h2 hmo
  by_cases hp : pairOk es m = true
  · have HG := Lib.hid (HG0.out hp)
    rw [hpo] at hp
    simp only [Bool.and_eq_true, decide_eq_true_eq] at hp
    obtain ⟨rfl, rfl, e1, e2, e3, hs1, hs2⟩ := hp
    have f1 : (x == y) = false := by simpa [bne] using e1
    have f2 : (px != y) = false := by simp [bne, e2]
    have f3 : (py != x) = false := by simp [bne, e3]
    have f4 : decide (m.state < 1) = false := decide_eq_false (by omega)
    have f5 : decide (5 < m.state) = false := decide_eq_false (by omega)
    clear hpo HG0 e1 e2 e3 hs1 hs2
    obtain ⟨l, hl⟩ : ∃ l, m.left ++ m.right = l := ⟨_, rfl⟩
    have HB2 : Hid (¬ l.Nodup → sidesR es m = (0, 0, 1)) := Lib.hid (by rw [← hl]; exact sidesR_bad2)
    rw [hl] at HCC HLN HOK HG
    clear hl
    go_enter Tryz.func76, Tryz.ntmps76; go_upto_region 1 with fail; (try rw [hW1]); (try rw [hz1]); clear hW1
    go_upto_region 3 with (first | (refine wpList_rowG 36 _ rfl rfl w.heap.size bv _ rfl (HRG.out _ ((Keeps.refl W1).alloc _)) Tryz.underlying36 rfl (by rw [HBL.out]; exact booksSize) ?_) | (refine wpList_rowG 36 _ rfl rfl w.heap.size bv _ rfl (HRG.out _ (K1.out)) Tryz.underlying36 rfl (by rw [HBL.out]; exact booksSize) ?_) | (go_at_call 116; guard_hyp HE1 : _; (refine (HE1.out _ (HW1.out.trans ((Keeps.refl W1).alloc _))).mono ?_); rintro e1 w1 ⟨rfl, hk1⟩; have K1 := Lib.hid (((Keeps.refl W1).alloc (.cells #[.int .i64 m.id, .slice aoL m.left.length capL, .slice aoR m.right.length capR, .int .i64 m.state] 48)).trans hk1); have x1 := hk1.cell (p := ⟨W1.heap.size, 1, none⟩) (v := .slice aoL m.left.length capL) (by go_simp); have x3 := hk1.cell (p := ⟨W1.heap.size, 3, none⟩) (v := .int .i64 m.state) (by go_simp); have x2 := hk1.cell (p := ⟨W1.heap.size, 2, none⟩) (v := .slice aoR m.right.length capR) (by go_simp); have hzb := World.block_lt_of_cell? _ _ x2; clear HE1 hk1) | (go_at_call 116; (refine (HE2.out _ (HW1.out.trans K1.out)).mono ?_); rintro e3 w3 ⟨rfl, hk3⟩; have y1 := hk3.cell x1; have y2 := hk3.cell x2; have y3 := hk3.cell x3; have hzc := World.block_lt_of_cell? _ _ y2; have K3 := Lib.hid (K1.out.trans hk3); clear hk3 x1 x2 x3 hzb))
    go_wp2_with (go_at_call 70; have hlit := Sl.lit (w3.alloc (.map #[] 0)) 1 2 [.slice aoL m.left.length capL, .slice aoR m.right.length capR] 46 rfl (by omega); rw [World.size_alloc] at hlit; (refine (HCC.out _ _ _ _ _ (HW1.out.trans ((K3.out.alloc _).alloc _)) hlit).mono ?_); rintro e5 w5 ⟨v5, rfl, ho5, hk5⟩; clear hlit; obtain ⟨ao5, cap5, b5, rfl, hs5⟩ := Sl.own ho5; have hb5 := own_block ho5 hs5; simp only [World.size_alloc] at hb5; have hcap5 := Sl.cap hs5; have hle5 := Sl.le hs5; have HS5 := Lib.hid hs5; have K5 := Lib.hid (((K3.out.alloc (.map #[] 0)).alloc (.cells #[.slice aoL m.left.length capL, .slice aoR m.right.length capR] 46)).trans hk5); have HM5 := Lib.hid (((VMap.made refK w3).alloc (.cells #[.slice aoL m.left.length capL, .slice aoR m.right.length capR] 46)).keeps hk5); have HZ5 := hk5.size; simp only [World.size_alloc] at HZ5; clear ho5 hs5 hk5)
    have hcut : w3.heap.size < w5.heap.size := by omega
    go_loopw [71] (fun vi wr => ∃ k : Nat, k ≤ l.length ∧ vi = .int .i64 k ∧ Hid (∀ j (hj : j < l.length), j < k → l[j] ∉ l.take j) ∧ Hid (Keeps W1 wr ∧ w5.grownBy wr (some w3.heap.size) ∧ VMap refK wr w3.heap.size k (setM (memB (l.take k))))) (fun vi _ => l.length - (intOf vi).toNat)
    case atStart => exact ⟨0, Nat.zero_le _, rfl, Lib.hid (fun j _ h => absurd h (Nat.not_lt_zero _)), Lib.hid ⟨K5.out, World.grownBy.refl _ _, by rw [show setM (memB (l.take 0)) = fun _ => none from by funext d; simp [setM, memB]]; exact HM5.out⟩⟩
    case round =>
      obtain ⟨k, hk, rfl, HN, HW⟩ := hrel
      have hln := HLN.out
      by_cases hlt : k < l.length
      · have hr := Sl.grownR HS5.out HW.out.2.1 (by intro e; have := hb5 (by omega); simp at e; omega)
        have hix := Sl.at hr Tryz.underlying46 Tryz.sizeOf51 k hlt
        obtain ⟨r, hrk⟩ : ∃ r, l[k] = r := ⟨_, rfl⟩
        have hr : Recs wr 2 Rf.cells ao5 l cap5 b5 0 := hr
        have c0 := hr.cell Rf.len k hlt 0 (.int .i64 r.e) (by rw [hrk]; rfl)
        have c1 := hr.cell Rf.len k hlt 1 (.int .i64 r.l) (by rw [hrk]; rfl)
        simp only [Nat.add_zero, Nat.zero_add] at c0 c1 hix
        have HRK := Lib.hid hrk
        have HRO : Hid r.Ok := Lib.hid (by rw [← hrk]; exact HOK.out _ (List.getElem_mem ..))
        have HTK : Hid (l.take (k + 1) = l.take k ++ [r]) := Lib.hid (by rw [take_snoc _ _ hlt, hrk])
        have hzr := World.block_lt_of_cell? _ _ c0
        clear hr hrk
        obtain ⟨s, hs⟩ : ∃ s, memB (l.take k) r = s := ⟨_, rfl⟩
        have hlk : (Instr.lookup 141 (.map (some w3.heap.size)) (.agg #[.int .i64 r.e, .int .i64 r.l]) false).run Tryz.prog (wr.alloc (.cells #[.int .i64 r.e, .int .i64 r.l] 51)) = .ok (.bool s) (wr.alloc (.cells #[.int .i64 r.e, .int .i64 r.l] 51)) := by
          have := (HW.out.2.2.alloc (.cells #[.int .i64 r.e, .int .i64 r.l] 51)).look Tryz.underlying141 (fun w => Tryz.zeroValue4 w) (a := r) HRO.out _ rfl
          rw [setM_get, hs] at this
          exact this
        have HS := Lib.hid hs
        clear hs
        cases s with
        | true =>
          have HBD := Lib.hid (HB2.out (nodup_take_bad hlt (by rw [HRK.out]; exact of_decide_eq_true HS.out)))
          go_wp2_with fail
          (refine bodyPost_ret (results_tmp3 rfl _ _ _) rfl ?_)
          rw [HBD.out]
          exact ⟨rfl, HW1.out.trans (HW.out.1.alloc _)⟩
        | false =>
          have HN2 : Hid (∀ j (hj : j < l.length), j < k + 1 → l[j] ∉ l.take j) := Lib.hid (fun j hj hjk => by
            by_cases e : j < k
            · exact HN.out j hj e
            · obtain rfl : j = k := by omega
              rw [HRK.out]; exact of_decide_eq_false HS.out)
          go_wp2_with (refine wpList_vstore (K := refK) rfl _ _ _ 141 rfl Tryz.underlying141 w3.heap.size k rfl (HW.out.2.2.alloc _) (by unfold maxLen; omega) r HRO.out rfl (.bool true) rfl (setM (memB (l.take (k + 1)))) (by rw [HTK.out]; exact (memB_snoc _ _).1) (fun d _ hd => by rw [HTK.out]; exact (memB_snoc _ _).2 d hd) ?_; intro w7 hm7 hg7; have HX : Hid (Keeps W1 w7 ∧ w5.grownBy w7 (some w3.heap.size) ∧ VMap refK w7 w3.heap.size (k + 1) (setM (memB (l.take (k + 1))))) := Lib.hid ⟨Below.grown (HW.out.1.alloc _) hg7 (HW.out.1.alloc _).size (fun j hj => by cases hj; exact K3.out.size), (HW.out.2.1.trans (World.grownBy_alloc _ _ _)).trans hg7, hm7⟩; clear hm7 hg7)
          go_roundw
          case rel => exact ⟨k + 1, by omega, by go_num, HN2, HX⟩
          case measure => simp [intOf]; omega
      · have HGD := Lib.hid (HG.out (nodup_take (fun j hj => HN.out j hj (by omega))))
        go_wp2_with fail
        (refine bodyPost_ret (results_tmp3 rfl _ _ _) rfl ?_)
        rw [HGD.out]
        exact ⟨rfl, HW1.out.trans HW.out.1⟩
  · have HBD := Lib.hid (sidesR_bad1 (by simpa using hp))
    rw [hpo] at hp
    clear hpo HG0 HCC HLN HOK
    cases q1 with
    | false =>
      clear hp
      (go_enter Tryz.func76, Tryz.ntmps76; go_upto_region 1 with fail; (try rw [hW1]); (try rw [hz1]); clear hW1; go_upto_region 3 with (first | (refine wpList_rowG 36 _ rfl rfl w.heap.size bv _ rfl (HRG.out _ ((Keeps.refl W1).alloc _)) Tryz.underlying36 rfl (by rw [HBL.out]; exact booksSize) ?_) | (refine wpList_rowG 36 _ rfl rfl w.heap.size bv _ rfl (HRG.out _ (K1.out)) Tryz.underlying36 rfl (by rw [HBL.out]; exact booksSize) ?_) | (go_at_call 116; guard_hyp HE1 : _; (refine (HE1.out _ (HW1.out.trans ((Keeps.refl W1).alloc _))).mono ?_); rintro e1 w1 ⟨rfl, hk1⟩; have K1 := Lib.hid (((Keeps.refl W1).alloc (.cells #[.int .i64 m.id, .slice aoL m.left.length capL, .slice aoR m.right.length capR, .int .i64 m.state] 48)).trans hk1); have x1 := hk1.cell (p := ⟨W1.heap.size, 1, none⟩) (v := .slice aoL m.left.length capL) (by go_simp); have x3 := hk1.cell (p := ⟨W1.heap.size, 3, none⟩) (v := .int .i64 m.state) (by go_simp); have x2 := hk1.cell (p := ⟨W1.heap.size, 2, none⟩) (v := .slice aoR m.right.length capR) (by go_simp); have hzb := World.block_lt_of_cell? _ _ x2; clear HE1 hk1) | (go_at_call 116; (refine (HE2.out _ (HW1.out.trans K1.out)).mono ?_); rintro e3 w3 ⟨rfl, hk3⟩; have y1 := hk3.cell x1; have y2 := hk3.cell x2; have y3 := hk3.cell x3; have hzc := World.block_lt_of_cell? _ _ y2; have K3 := Lib.hid (K1.out.trans hk3); clear hk3 x1 x2 x3 hzb)); go_wp2_with fail; (refine bodyPost_ret (results_tmp3 rfl _ _ _) rfl ?_); rw [HBD.out]; exact ⟨rfl, HW1.out.trans K3.out⟩)
    | true =>
      cases q2 with
      | false =>
        clear hp
        (go_enter Tryz.func76, Tryz.ntmps76; go_upto_region 1 with fail; (try rw [hW1]); (try rw [hz1]); clear hW1; go_upto_region 3 with (first | (refine wpList_rowG 36 _ rfl rfl w.heap.size bv _ rfl (HRG.out _ ((Keeps.refl W1).alloc _)) Tryz.underlying36 rfl (by rw [HBL.out]; exact booksSize) ?_) | (refine wpList_rowG 36 _ rfl rfl w.heap.size bv _ rfl (HRG.out _ (K1.out)) Tryz.underlying36 rfl (by rw [HBL.out]; exact booksSize) ?_) | (go_at_call 116; guard_hyp HE1 : _; (refine (HE1.out _ (HW1.out.trans ((Keeps.refl W1).alloc _))).mono ?_); rintro e1 w1 ⟨rfl, hk1⟩; have K1 := Lib.hid (((Keeps.refl W1).alloc (.cells #[.int .i64 m.id, .slice aoL m.left.length capL, .slice aoR m.right.length capR, .int .i64 m.state] 48)).trans hk1); have x1 := hk1.cell (p := ⟨W1.heap.size, 1, none⟩) (v := .slice aoL m.left.length capL) (by go_simp); have x3 := hk1.cell (p := ⟨W1.heap.size, 3, none⟩) (v := .int .i64 m.state) (by go_simp); have x2 := hk1.cell (p := ⟨W1.heap.size, 2, none⟩) (v := .slice aoR m.right.length capR) (by go_simp); have hzb := World.block_lt_of_cell? _ _ x2; clear HE1 hk1) | (go_at_call 116; (refine (HE2.out _ (HW1.out.trans K1.out)).mono ?_); rintro e3 w3 ⟨rfl, hk3⟩; have y1 := hk3.cell x1; have y2 := hk3.cell x2; have y3 := hk3.cell x3; have hzc := World.block_lt_of_cell? _ _ y2; have K3 := Lib.hid (K1.out.trans hk3); clear hk3 x1 x2 x3 hzb)); go_wp2_with fail; (refine bodyPost_ret (results_tmp3 rfl _ _ _) rfl ?_); rw [HBD.out]; exact ⟨rfl, HW1.out.trans K3.out⟩)
      | true =>
        by_cases g1 : x = y
        · have f1 : (x == y) = true := by simpa using g1
          clear g1 hp
          (go_enter Tryz.func76, Tryz.ntmps76; go_upto_region 1 with fail; (try rw [hW1]); (try rw [hz1]); clear hW1; go_upto_region 3 with (first | (refine wpList_rowG 36 _ rfl rfl w.heap.size bv _ rfl (HRG.out _ ((Keeps.refl W1).alloc _)) Tryz.underlying36 rfl (by rw [HBL.out]; exact booksSize) ?_) | (refine wpList_rowG 36 _ rfl rfl w.heap.size bv _ rfl (HRG.out _ (K1.out)) Tryz.underlying36 rfl (by rw [HBL.out]; exact booksSize) ?_) | (go_at_call 116; guard_hyp HE1 : _; (refine (HE1.out _ (HW1.out.trans ((Keeps.refl W1).alloc _))).mono ?_); rintro e1 w1 ⟨rfl, hk1⟩; have K1 := Lib.hid (((Keeps.refl W1).alloc (.cells #[.int .i64 m.id, .slice aoL m.left.length capL, .slice aoR m.right.length capR, .int .i64 m.state] 48)).trans hk1); have x1 := hk1.cell (p := ⟨W1.heap.size, 1, none⟩) (v := .slice aoL m.left.length capL) (by go_simp); have x3 := hk1.cell (p := ⟨W1.heap.size, 3, none⟩) (v := .int .i64 m.state) (by go_simp); have x2 := hk1.cell (p := ⟨W1.heap.size, 2, none⟩) (v := .slice aoR m.right.length capR) (by go_simp); have hzb := World.block_lt_of_cell? _ _ x2; clear HE1 hk1) | (go_at_call 116; (refine (HE2.out _ (HW1.out.trans K1.out)).mono ?_); rintro e3 w3 ⟨rfl, hk3⟩; have y1 := hk3.cell x1; have y2 := hk3.cell x2; have y3 := hk3.cell x3; have hzc := World.block_lt_of_cell? _ _ y2; have K3 := Lib.hid (K1.out.trans hk3); clear hk3 x1 x2 x3 hzb)); go_wp2_with fail; (refine bodyPost_ret (results_tmp3 rfl _ _ _) rfl ?_); rw [HBD.out]; exact ⟨rfl, HW1.out.trans K3.out⟩)
        have f1 : (x == y) = false := by simpa using g1
        by_cases g2 : px = y
        · have f2 : (px != y) = false := by simpa using g2
          by_cases g3 : py = x
          · have f3 : (py != x) = false := by simpa using g3
            by_cases g4 : m.state < 1
            · have f4 : decide (m.state < 1) = true := decide_eq_true g4
              clear hp g1 g2 g3 g4
              (go_enter Tryz.func76, Tryz.ntmps76; go_upto_region 1 with fail; (try rw [hW1]); (try rw [hz1]); clear hW1; go_upto_region 3 with (first | (refine wpList_rowG 36 _ rfl rfl w.heap.size bv _ rfl (HRG.out _ ((Keeps.refl W1).alloc _)) Tryz.underlying36 rfl (by rw [HBL.out]; exact booksSize) ?_) | (refine wpList_rowG 36 _ rfl rfl w.heap.size bv _ rfl (HRG.out _ (K1.out)) Tryz.underlying36 rfl (by rw [HBL.out]; exact booksSize) ?_) | (go_at_call 116; guard_hyp HE1 : _; (refine (HE1.out _ (HW1.out.trans ((Keeps.refl W1).alloc _))).mono ?_); rintro e1 w1 ⟨rfl, hk1⟩; have K1 := Lib.hid (((Keeps.refl W1).alloc (.cells #[.int .i64 m.id, .slice aoL m.left.length capL, .slice aoR m.right.length capR, .int .i64 m.state] 48)).trans hk1); have x1 := hk1.cell (p := ⟨W1.heap.size, 1, none⟩) (v := .slice aoL m.left.length capL) (by go_simp); have x3 := hk1.cell (p := ⟨W1.heap.size, 3, none⟩) (v := .int .i64 m.state) (by go_simp); have x2 := hk1.cell (p := ⟨W1.heap.size, 2, none⟩) (v := .slice aoR m.right.length capR) (by go_simp); have hzb := World.block_lt_of_cell? _ _ x2; clear HE1 hk1) | (go_at_call 116; (refine (HE2.out _ (HW1.out.trans K1.out)).mono ?_); rintro e3 w3 ⟨rfl, hk3⟩; have y1 := hk3.cell x1; have y2 := hk3.cell x2; have y3 := hk3.cell x3; have hzc := World.block_lt_of_cell? _ _ y2; have K3 := Lib.hid (K1.out.trans hk3); clear hk3 x1 x2 x3 hzb)); go_wp2_with fail; (refine bodyPost_ret (results_tmp3 rfl _ _ _) rfl ?_); rw [HBD.out]; exact ⟨rfl, HW1.out.trans K3.out⟩)
            · have f4 : decide (m.state < 1) = false := decide_eq_false g4
              by_cases g5 : 5 < m.state
              · have f5 : decide (5 < m.state) = true := decide_eq_true g5
                clear hp g1 g2 g3 g4 g5
                (go_enter Tryz.func76, Tryz.ntmps76; go_upto_region 1 with fail; (try rw [hW1]); (try rw [hz1]); clear hW1; go_upto_region 3 with (first | (refine wpList_rowG 36 _ rfl rfl w.heap.size bv _ rfl (HRG.out _ ((Keeps.refl W1).alloc _)) Tryz.underlying36 rfl (by rw [HBL.out]; exact booksSize) ?_) | (refine wpList_rowG 36 _ rfl rfl w.heap.size bv _ rfl (HRG.out _ (K1.out)) Tryz.underlying36 rfl (by rw [HBL.out]; exact booksSize) ?_) | (go_at_call 116; guard_hyp HE1 : _; (refine (HE1.out _ (HW1.out.trans ((Keeps.refl W1).alloc _))).mono ?_); rintro e1 w1 ⟨rfl, hk1⟩; have K1 := Lib.hid (((Keeps.refl W1).alloc (.cells #[.int .i64 m.id, .slice aoL m.left.length capL, .slice aoR m.right.length capR, .int .i64 m.state] 48)).trans hk1); have x1 := hk1.cell (p := ⟨W1.heap.size, 1, none⟩) (v := .slice aoL m.left.length capL) (by go_simp); have x3 := hk1.cell (p := ⟨W1.heap.size, 3, none⟩) (v := .int .i64 m.state) (by go_simp); have x2 := hk1.cell (p := ⟨W1.heap.size, 2, none⟩) (v := .slice aoR m.right.length capR) (by go_simp); have hzb := World.block_lt_of_cell? _ _ x2; clear HE1 hk1) | (go_at_call 116; (refine (HE2.out _ (HW1.out.trans K1.out)).mono ?_); rintro e3 w3 ⟨rfl, hk3⟩; have y1 := hk3.cell x1; have y2 := hk3.cell x2; have y3 := hk3.cell x3; have hzc := World.block_lt_of_cell? _ _ y2; have K3 := Lib.hid (K1.out.trans hk3); clear hk3 x1 x2 x3 hzb)); go_wp2_with fail; (refine bodyPost_ret (results_tmp3 rfl _ _ _) rfl ?_); rw [HBD.out]; exact ⟨rfl, HW1.out.trans K3.out⟩)
              · exfalso
                apply hp
                simp [g1, g2, g3]
                omega
          · have f3 : (py != x) = true := by simpa using g3
            clear hp g1 g2 g3
            (go_enter Tryz.func76, Tryz.ntmps76; go_upto_region 1 with fail; (try rw [hW1]); (try rw [hz1]); clear hW1; go_upto_region 3 with (first | (refine wpList_rowG 36 _ rfl rfl w.heap.size bv _ rfl (HRG.out _ ((Keeps.refl W1).alloc _)) Tryz.underlying36 rfl (by rw [HBL.out]; exact booksSize) ?_) | (refine wpList_rowG 36 _ rfl rfl w.heap.size bv _ rfl (HRG.out _ (K1.out)) Tryz.underlying36 rfl (by rw [HBL.out]; exact booksSize) ?_) | (go_at_call 116; guard_hyp HE1 : _; (refine (HE1.out _ (HW1.out.trans ((Keeps.refl W1).alloc _))).mono ?_); rintro e1 w1 ⟨rfl, hk1⟩; have K1 := Lib.hid (((Keeps.refl W1).alloc (.cells #[.int .i64 m.id, .slice aoL m.left.length capL, .slice aoR m.right.length capR, .int .i64 m.state] 48)).trans hk1); have x1 := hk1.cell (p := ⟨W1.heap.size, 1, none⟩) (v := .slice aoL m.left.length capL) (by go_simp); have x3 := hk1.cell (p := ⟨W1.heap.size, 3, none⟩) (v := .int .i64 m.state) (by go_simp); have x2 := hk1.cell (p := ⟨W1.heap.size, 2, none⟩) (v := .slice aoR m.right.length capR) (by go_simp); have hzb := World.block_lt_of_cell? _ _ x2; clear HE1 hk1) | (go_at_call 116; (refine (HE2.out _ (HW1.out.trans K1.out)).mono ?_); rintro e3 w3 ⟨rfl, hk3⟩; have y1 := hk3.cell x1; have y2 := hk3.cell x2; have y3 := hk3.cell x3; have hzc := World.block_lt_of_cell? _ _ y2; have K3 := Lib.hid (K1.out.trans hk3); clear hk3 x1 x2 x3 hzb)); go_wp2_with fail; (refine bodyPost_ret (results_tmp3 rfl _ _ _) rfl ?_); rw [HBD.out]; exact ⟨rfl, HW1.out.trans K3.out⟩)
        · have f2 : (px != y) = true := by simpa using g2
          clear hp g1 g2
          (go_enter Tryz.func76, Tryz.ntmps76; go_upto_region 1 with fail; (try rw [hW1]); (try rw [hz1]); clear hW1; go_upto_region 3 with (first | (refine wpList_rowG 36 _ rfl rfl w.heap.size bv _ rfl (HRG.out _ ((Keeps.refl W1).alloc _)) Tryz.underlying36 rfl (by rw [HBL.out]; exact booksSize) ?_) | (refine wpList_rowG 36 _ rfl rfl w.heap.size bv _ rfl (HRG.out _ (K1.out)) Tryz.underlying36 rfl (by rw [HBL.out]; exact booksSize) ?_) | (go_at_call 116; guard_hyp HE1 : _; (refine (HE1.out _ (HW1.out.trans ((Keeps.refl W1).alloc _))).mono ?_); rintro e1 w1 ⟨rfl, hk1⟩; have K1 := Lib.hid (((Keeps.refl W1).alloc (.cells #[.int .i64 m.id, .slice aoL m.left.length capL, .slice aoR m.right.length capR, .int .i64 m.state] 48)).trans hk1); have x1 := hk1.cell (p := ⟨W1.heap.size, 1, none⟩) (v := .slice aoL m.left.length capL) (by go_simp); have x3 := hk1.cell (p := ⟨W1.heap.size, 3, none⟩) (v := .int .i64 m.state) (by go_simp); have x2 := hk1.cell (p := ⟨W1.heap.size, 2, none⟩) (v := .slice aoR m.right.length capR) (by go_simp); have hzb := World.block_lt_of_cell? _ _ x2; clear HE1 hk1) | (go_at_call 116; (refine (HE2.out _ (HW1.out.trans K1.out)).mono ?_); rintro e3 w3 ⟨rfl, hk3⟩; have y1 := hk3.cell x1; have y2 := hk3.cell x2; have y3 := hk3.cell x3; have hzc := World.block_lt_of_cell? _ _ y2; have K3 := Lib.hid (K1.out.trans hk3); clear hk3 x1 x2 x3 hzb)); go_wp2_with fail; (refine bodyPost_ret (results_tmp3 rfl _ _ _) rfl ?_); rw [HBD.out]; exact ⟨rfl, HW1.out.trans K3.out⟩)
set_option maxRecDepth 100000 in
set_option maxHeartbeats 2000000 in
theorem mval_any (bv : List Value) (es : List JV) (ms : List MV) (m : Mt) (aoL : Option Addr) (capL bL oL : Nat) (aoR : Option Addr) (capR bR oR : Nat) (w : World) (H : Bks w bv es ms) (hm : ∀ e ∈ es, e.x.lines.length ≤ 8)
    (HL : Recs w 2 Rf.cells aoL m.left capL bL oL) (HR : Recs w 2 Rf.cells aoR m.right capR bR oR) (h1 : m.left.length ≤ 400) (h2 : m.right.length ≤ 400) (hmo : m.Ok) :
    Calls Tryz.prog 69 #[.agg bv.toArray, .agg #[.int .i64 m.id, .slice aoL m.left.length capL, .slice aoR m.right.length capR, .int .i64 m.state]] w fun e w' => e = .returned (.bool ((sidesR es m).2.2 == 0)) ∧ Keeps w w' := by
  have HBL := Lib.hid H.len
  have HS : Hid (∀ W, Keeps w W → Calls Tryz.prog 76 #[.agg bv.toArray, .agg #[.int .i64 m.id, .slice aoL m.left.length capL, .slice aoR m.right.length capR, .int .i64 m.state]] W fun e w' => e = .returned (.tuple #[.int .i64 (sidesR es m).1, .int .i64 (sidesR es m).2.1, .int .i64 (sidesR es m).2.2]) ∧ Keeps W w') := Lib.hid (fun W hk => sides_any bv es ms m aoL capL bL oL aoR capR bR oR W (H.keeps hk) hm (HL.keeps hk) (HR.keeps hk) h1 h2 hmo)
  obtain ⟨⟨x, y, e⟩, he⟩ : ∃ q, sidesR es m = q := ⟨_, rfl⟩
  rw [he] at HS ⊢
  have hrg := box_range w bv 36
  have hk0 : Keeps w (w.alloc (.cells bv.toArray 36)) := (Keeps.refl w).alloc _
  obtain ⟨W1, hW1⟩ : ∃ W1, w.alloc (.cells bv.toArray 36) = W1 := ⟨_, rfl⟩
  have hz1 : w.heap.size + 1 = W1.heap.size := by rw [← hW1]; simp
  rw [hW1] at hrg hk0
  have HW1 := Lib.hid hk0
  have HRG : Hid (∀ W, Keeps W1 W → W.rangeAt w.heap.size 0 bv) := Lib.hid (fun W hk => range_keeps hrg hk)
  clear H HL HR hrg hk0 he h1 h2 hmo
  go_enter Tryz.func69, Tryz.ntmps69
  go_upto_region 1 with fail
  (try rw [hW1])
  (try rw [hz1])
  clear hW1
  go_wp2_with (first | (refine wpList_rowG 36 _ rfl rfl w.heap.size bv _ rfl (HRG.out _ ((Keeps.refl W1).alloc _)) Tryz.underlying36 rfl (by rw [HBL.out]; exact booksSize) ?_) | (go_at_call 76; (refine (HS.out _ (HW1.out.trans ((Keeps.refl W1).alloc _))).mono ?_); rintro e1 w1 ⟨rfl, hk1⟩; have K1 := Lib.hid (((Keeps.refl W1).alloc (.cells #[.int .i64 m.id, .slice aoL m.left.length capL, .slice aoR m.right.length capR, .int .i64 m.state] 48)).trans hk1); clear hk1))
  go_ret
  exact ⟨rfl, HW1.out.trans K1.out⟩
end Go.Proofs.YtoaidbhiciaeaaaGreat

end
