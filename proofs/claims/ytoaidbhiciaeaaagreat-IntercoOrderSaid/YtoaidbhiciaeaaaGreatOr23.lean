/- Walks and plain facts that the claim rests on (MchA, IcoP, RH). No condition. -/
import Derived.Test.YtoaidbhiciaeaaaGreatOr22
import Derived.Test.YtoaidbhiciaeaaaGreatOr17
import Derived.Test.YtoaidbhiciaeaaaGreatOr18
import Derived.Test.YtoaidbhiciaeaaaGreatOr07
import Derived.Test.YtoaidbhiciaeaaaGreatOr19
section
namespace Go.Proofs.YtoaidbhiciaeaaaGreat
open Go.RowKit
set_option linter.unusedSimpArgs false
set_option linter.unusedVariables false
theorem sidesR_ok {es : List JV} {m : Mt} (h : (sidesR es m).2.2 = 0) : pairOk es m = true ∧ (m.left ++ m.right).Nodup := by
  unfold sidesR at h
  by_cases hc : pairOk es m = true ∧ (m.left ++ m.right).Nodup
  · exact hc
  · rw [if_neg hc] at h; simp at h
theorem refsOf_snoc {ms : List MV} {k : Nat} (hk : k < ms.length) : refsOf (ms.take (k + 1)) = refsOf (ms.take k) ++ (ms[k].x.left ++ ms[k].x.right) := by
  unfold refsOf
  rw [take_snoc _ _ hk, List.flatMap_append]
  simp
set_option maxRecDepth 100000 in
set_option maxHeartbeats 8000000 in
theorem allMP_any (bv : List Value) (es : List JV) (ms : List MV) (w : World) (H : Bks w bv es ms) (hm : ∀ e ∈ es, e.x.lines.length ≤ 8) (hs : ∀ m ∈ ms, m.x.left.length ≤ 400 ∧ m.x.right.length ≤ 400) (hid : ∀ m ∈ ms, I64 m.x.id) (hml : ms.length ≤ 1000) :
    Calls Tryz.prog 40 #[.agg bv.toArray] w fun e w' => e = .returned (.bool (allMB es ms)) ∧ Keeps w w' := by
  have hmm := @run_makeMap Tryz.prog
  obtain ⟨ao1, cap1, b1, o1, hb24, hmt⟩ := H.mts
  have hcap1 := Sl.cap hmt.row
  have hle1 := Sl.le hmt.row
  have HMT := Lib.hid hmt
  have HBL := Lib.hid H.len
  have HV0 : Hid (∀ m ∈ ms, ∀ W, Keeps w W → Calls Tryz.prog 69 #[.agg bv.toArray, .agg #[.int .i64 m.x.id, .slice m.al m.x.left.length m.cl, .slice m.ar m.x.right.length m.cr, .int .i64 m.x.state]] W fun e w' => e = .returned (.bool ((sidesR es m.x).2.2 == 0)) ∧ Keeps W w') := Lib.hid (fun m hmem W hk => mval_any bv es ms m.x m.al m.cl m.bl m.ol m.ar m.cr m.br m.or_ W (H.keeps hk) hm ((hmt.left m hmem).keeps hk) ((hmt.right m hmem).keeps hk) (hs m hmem).1 (hs m hmem).2 (H.mok m hmem))
  have HC0 : Hid (∀ m ∈ ms, ∀ W ao cap b o, Keeps w W → Sl W 1 ao 2 cap b o [.slice m.al m.x.left.length m.cl, .slice m.ar m.x.right.length m.cr] → Calls Tryz.prog 70 #[.slice ao 2 cap] W fun e w' => ∃ v, e = .returned v ∧ w'.ownsRow W.heap.size 51 2 v (m.x.left ++ m.x.right).length ((m.x.left ++ m.x.right).flatMap Rf.cells) ∧ Keeps W w') := Lib.hid (fun m hmem W ao cap b o hk hsl => concat_any m.x.left m.x.right m.al m.cl m.bl m.ol m.ar m.cr m.br m.or_ ao cap b o W ((hmt.left m hmem).keeps hk) ((hmt.right m hmem).keeps hk) hsl (hs m hmem).1 (hs m hmem).2)
  have HOK : Hid (∀ m ∈ ms, ∀ r ∈ m.x.left ++ m.x.right, r.Ok) := Lib.hid (fun m hmem r hr => (List.mem_append.1 hr).elim ((H.mok m hmem).1 r) ((H.mok m hmem).2 r))
  have HSZ := Lib.hid hs
  have HID := Lib.hid hid
  have hrg := box_range w bv 36
  have hk0 : Keeps w (w.alloc (.cells bv.toArray 36)) := (Keeps.refl w).alloc _
  obtain ⟨W1, hW1⟩ : ∃ W1, w.alloc (.cells bv.toArray 36) = W1 := ⟨_, rfl⟩
  have hz1 : w.heap.size + 1 = W1.heap.size := by rw [← hW1]; simp
  rw [hW1] at hrg hk0
  have HW1 := Lib.hid hk0
  have g24 := hrg 24 _ hb24
  simp only [Nat.zero_add] at g24
  have HRG : Hid (∀ W, Keeps W1 W → W.rangeAt w.heap.size 0 bv) := Lib.hid (fun W hk => range_keeps hrg hk)
  have hzg0 := World.block_lt_of_cell? _ _ g24
  clear H hmt hrg hk0 hs hid hb24
  go_enter Tryz.func40, Tryz.ntmps40
  go_upto_region 1 with fail
  (try rw [hW1])
  (try rw [hz1])
  clear hW1
  go_wp2_with fail
  go_loopw [14] (fun vi wr => ∃ k : Nat, k ≤ ms.length ∧ vi = .int .i64 k ∧ Hid (∀ j, j < k → okM es ms j = true) ∧ Hid (Keeps W1 wr ∧ VMap intK wr W1.heap.size k (seenI ((ms.take k).map (fun q => q.x.id))) ∧ VMap refK wr (W1.heap.size + 1) (800 * k) (setM (memB (refsOf (ms.take k)))))) (fun vi _ => ms.length - (intOf vi).toNat)
  case atStart =>
    refine ⟨0, Nat.zero_le _, rfl, Lib.hid (fun j hj => absurd hj (Nat.not_lt_zero _)), Lib.hid ⟨((Keeps.refl W1).alloc _).alloc _, ?_, ?_⟩⟩
    · exact (VMap.made intK W1).alloc _
    · have := VMap.made refK (W1.alloc (.map #[] 0))
      rw [World.size_alloc] at this
      rw [show setM (memB (refsOf (ms.take 0))) = fun _ => none from by funext d; simp [setM, memB, refsOf]]
      exact this
  case round =>
    obtain ⟨k, hk, rfl, HN, HW⟩ := hrel
    have g24' := HW.out.1.cell g24
    have hzg := World.block_lt_of_cell? _ _ g24'
    have hzm := HW.out.2.2.lt
    by_cases hlt : k < ms.length
    · have hr := HMT.out.row.keeps (HW1.out.trans HW.out.1)
      have hix := Sl.at hr Tryz.underlying33 Tryz.sizeOf48 k hlt
      have hmem := List.getElem_mem hlt
      have hokl := okM_at (es := es) hlt
      have hrs := refsOf_snoc hlt
      have htk := take_snoc ms k hlt
      obtain ⟨m, hmk⟩ : ∃ m, ms[k] = m := ⟨_, rfl⟩
      have c0 := hr.cell MV.len k hlt 0 (.int .i64 m.x.id) (by rw [hmk]; rfl)
      have c1 := hr.cell MV.len k hlt 1 (.slice m.al m.x.left.length m.cl) (by rw [hmk]; rfl)
      have c2 := hr.cell MV.len k hlt 2 (.slice m.ar m.x.right.length m.cr) (by rw [hmk]; rfl)
      have c3 := hr.cell MV.len k hlt 3 (.int .i64 m.x.state) (by rw [hmk]; rfl)
      rw [Nat.add_zero] at c0
      have hzr := World.block_lt_of_cell? _ _ c0
      rw [hmk] at hmem hokl hrs htk
      have HTK := Lib.hid htk
      have HRS := Lib.hid hrs
      have HMI := Lib.hid (HID.out m hmem)
      have HV := Lib.hid (HV0.out m hmem)
      have HCC := Lib.hid (HC0.out m hmem)
      have HRO := Lib.hid (HOK.out m hmem)
      have HLN : Hid ((m.x.left ++ m.x.right).length ≤ 800) := Lib.hid (by rw [List.length_append]; have := HSZ.out m hmem; omega)
      clear hr hmk hmem hrs htk
      by_cases h1 : m.x.id < 1
      · have e1 : decide (m.x.id < 1) = true := decide_eq_true h1
        have HBD := Lib.hid (allMB_bad hlt (hokl.trans (by rw [decide_eq_false (by omega : ¬ 1 ≤ m.x.id)]; rfl)))
        clear hokl h1
        go_wp2_with fail
        go_ret
        rw [HBD.out]
        exact ⟨rfl, HW1.out.trans (HW.out.1.alloc _)⟩
      have e1 : decide (m.x.id < 1) = false := decide_eq_false h1
      rw [decide_eq_true (by omega : 1 ≤ m.x.id)] at hokl
      clear h1
      obtain ⟨s, hs⟩ : ∃ s, (ms.take k).any (fun q => q.x.id == m.x.id) = s := ⟨_, rfl⟩
      rw [hs] at hokl
      have hlk : (Instr.lookup 140 (.map (some W1.heap.size)) (.int .i64 m.x.id) false).run Tryz.prog (wr.alloc (.cells #[.int .i64 m.x.id, .slice m.al m.x.left.length m.cl, .slice m.ar m.x.right.length m.cr, .int .i64 m.x.state] 48)) = .ok (.bool s) (wr.alloc (.cells #[.int .i64 m.x.id, .slice m.al m.x.left.length m.cl, .slice m.ar m.x.right.length m.cr, .int .i64 m.x.state] 48)) := by
        have := (HW.out.2.1.alloc (.cells #[.int .i64 m.x.id, .slice m.al m.x.left.length m.cl, .slice m.ar m.x.right.length m.cr, .int .i64 m.x.state] 48)).look Tryz.underlying140 (fun w => Tryz.zeroValue4 w) (a := m.x.id) HMI.out _ rfl
        have h2 : ((ms.take k).map (fun q => q.x.id)).contains m.x.id = s := by
          rw [← hs, List.contains_eq_any_beq, List.any_map]
          congr 1
          funext q
          simp only [Function.comp]
          rw [Bool.eq_iff_iff, beq_iff_eq, beq_iff_eq]
          exact eq_comm
        rw [seenI_get', h2] at this
        exact this
      clear hs
      cases s with
      | true =>
        have HBD := Lib.hid (allMB_bad hlt (hokl.trans rfl))
        clear hokl
        go_wp2_with fail
        go_ret
        rw [HBD.out]
        exact ⟨rfl, HW1.out.trans (HW.out.1.alloc _)⟩
      | false =>
        cases hv : ((sidesR es m.x).2.2 == 0) with
        | false =>
          rw [hv] at HV hokl
          have HBD := Lib.hid (allMB_bad hlt (hokl.trans rfl))
          clear hokl hv
          go_wp2_with (first | (refine wpList_rowG 36 _ rfl rfl w.heap.size bv _ rfl (HRG.out _ (HW.out.1.alloc _)) Tryz.underlying36 rfl (by rw [HBL.out]; exact booksSize) ?_) | (go_at_call 69; (refine (HV.out _ (HW1.out.trans (HW.out.1.alloc _))).mono ?_); rintro e2 w2 ⟨rfl, hk2⟩; have x0 := hk2.cell (p := ⟨wr.heap.size, 0, none⟩) (v := .int .i64 m.x.id) (by go_simp); have x1 := hk2.cell (p := ⟨wr.heap.size, 1, none⟩) (v := .slice m.al m.x.left.length m.cl) (by go_simp); have x2 := hk2.cell (p := ⟨wr.heap.size, 2, none⟩) (v := .slice m.ar m.x.right.length m.cr) (by go_simp); have hz2 := World.block_lt_of_cell? _ _ x0; have K2 := Lib.hid ((HW.out.1.alloc (.cells #[.int .i64 m.x.id, .slice m.al m.x.left.length m.cl, .slice m.ar m.x.right.length m.cr, .int .i64 m.x.state] 48)).trans hk2); have HI2 := Lib.hid ((HW.out.2.1.alloc (.cells #[.int .i64 m.x.id, .slice m.al m.x.left.length m.cl, .slice m.ar m.x.right.length m.cr, .int .i64 m.x.state] 48)).keeps hk2); have HR2 := Lib.hid ((HW.out.2.2.alloc (.cells #[.int .i64 m.x.id, .slice m.al m.x.left.length m.cl, .slice m.ar m.x.right.length m.cr, .int .i64 m.x.state] 48)).keeps hk2); clear hk2))
          go_ret
          rw [HBD.out]
          exact ⟨rfl, HW1.out.trans K2.out⟩
        | true =>
          have HND := Lib.hid (sidesR_ok (by simpa using hv)).2
          rw [hv] at HV hokl
          obtain ⟨l, hl⟩ : ∃ l, m.x.left ++ m.x.right = l := ⟨_, rfl⟩
          rw [hl] at HCC HRO HLN HRS hokl HND
          have HOKL : Hid (okM es ms k = l.all (fun r => !memB (refsOf (ms.take k)) r)) := Lib.hid (hokl.trans (by simp))
          clear hokl hv hl
          go_wp2_with (first | (refine wpList_rowG 36 _ rfl rfl w.heap.size bv _ rfl (HRG.out _ (HW.out.1.alloc _)) Tryz.underlying36 rfl (by rw [HBL.out]; exact booksSize) ?_) | (go_at_call 69; (refine (HV.out _ (HW1.out.trans (HW.out.1.alloc _))).mono ?_); rintro e2 w2 ⟨rfl, hk2⟩; have x0 := hk2.cell (p := ⟨wr.heap.size, 0, none⟩) (v := .int .i64 m.x.id) (by go_simp); have x1 := hk2.cell (p := ⟨wr.heap.size, 1, none⟩) (v := .slice m.al m.x.left.length m.cl) (by go_simp); have x2 := hk2.cell (p := ⟨wr.heap.size, 2, none⟩) (v := .slice m.ar m.x.right.length m.cr) (by go_simp); have hz2 := World.block_lt_of_cell? _ _ x0; have K2 := Lib.hid ((HW.out.1.alloc (.cells #[.int .i64 m.x.id, .slice m.al m.x.left.length m.cl, .slice m.ar m.x.right.length m.cr, .int .i64 m.x.state] 48)).trans hk2); have HI2 := Lib.hid ((HW.out.2.1.alloc (.cells #[.int .i64 m.x.id, .slice m.al m.x.left.length m.cl, .slice m.ar m.x.right.length m.cr, .int .i64 m.x.state] 48)).keeps hk2); have HR2 := Lib.hid ((HW.out.2.2.alloc (.cells #[.int .i64 m.x.id, .slice m.al m.x.left.length m.cl, .slice m.ar m.x.right.length m.cr, .int .i64 m.x.state] 48)).keeps hk2); clear hk2) | (refine wpList_vstore (K := intK) rfl _ _ _ 140 rfl Tryz.underlying140 W1.heap.size k rfl HI2.out (by unfold maxLen; omega) m.x.id HMI.out rfl (.bool true) rfl (seenI ((ms.take (k + 1)).map (fun q => q.x.id))) (by rw [HTK.out, List.map_append]; exact (seenI_snoc _ _).1) (fun d _ hd => by rw [HTK.out, List.map_append]; exact (seenI_snoc _ _).2 d hd) ?_; intro w3 hm3 hg3; have K3 : Hid (Keeps W1 w3) := Lib.hid (Below.grown K2.out hg3 K2.out.size (fun j hj => by cases hj; exact Nat.le_refl _)); have HI3 := Lib.hid hm3; have HR3 := Lib.hid (HR2.out.kept hg3 (by simp)); have y1 := hg3.cell x1 (by intro e; simp at e; omega); have y2 := hg3.cell x2 (by intro e; simp at e; omega); have hz3 := World.block_lt_of_cell? _ _ y1; clear hm3 hg3 x0 x1 x2 hz2) | (go_at_call 70; have hlit := Sl.lit w3 1 2 [.slice m.al m.x.left.length m.cl, .slice m.ar m.x.right.length m.cr] 46 rfl (by omega); (refine (HCC.out _ _ _ _ _ (HW1.out.trans (K3.out.alloc _)) hlit).mono ?_); rintro e5 w5 ⟨v5, rfl, ho5, hk5⟩; clear hlit; obtain ⟨ao5, cap5, b5, rfl, hs5⟩ := Sl.own ho5; have hb5 := own_block ho5 hs5; simp only [World.size_alloc] at hb5; have hcap5 := Sl.cap hs5; have hle5 := Sl.le hs5; have HS5 := Lib.hid hs5; have K5 := Lib.hid ((K3.out.alloc (.cells #[.slice m.al m.x.left.length m.cl, .slice m.ar m.x.right.length m.cr] 46)).trans hk5); have HI5 := Lib.hid ((HI3.out.alloc (.cells #[.slice m.al m.x.left.length m.cl, .slice m.ar m.x.right.length m.cr] 46)).keeps hk5); have HR5 := Lib.hid ((HR3.out.alloc (.cells #[.slice m.al m.x.left.length m.cl, .slice m.ar m.x.right.length m.cr] 46)).keeps hk5); have hzz := HR3.out.lt; clear ho5 hs5 hk5))
          have hbb : 0 < l.length → W1.heap.size + 1 < b5 := fun h => by have := hb5 h; omega
          have HBB := Lib.hid hbb
          clear hbb hb5 y1 y2
          have hln := HLN.out
          go_loopw [43] (fun vj w8 => ∃ j : Nat, j ≤ l.length ∧ vj = .int .i64 j ∧ Hid (∀ i (hi : i < l.length), i < j → memB (refsOf (ms.take k)) l[i] = false) ∧ Hid (Keeps W1 w8 ∧ w5.grownBy w8 (some (W1.heap.size + 1)) ∧ VMap refK w8 (W1.heap.size + 1) (800 * k + j) (setM (memB (refsOf (ms.take k) ++ l.take j))))) (fun vj _ => l.length - (intOf vj).toNat)
          case atStart => exact ⟨0, Nat.zero_le _, rfl, Lib.hid (fun i _ h => absurd h (Nat.not_lt_zero _)), Lib.hid ⟨K5.out, World.grownBy.refl _ _, by rw [List.take_zero, List.append_nil]; exact HR5.out⟩⟩
          case round =>
            obtain ⟨j, hj, rfl, HN8, HW8⟩ := hrel
            by_cases hjl : j < l.length
            · have hr := Sl.grownR HS5.out HW8.out.2.1 (by intro e; have := HBB.out (by omega); simp at e; omega)
              have hix := Sl.at hr Tryz.underlying46 Tryz.sizeOf51 j hjl
              have hr : Recs wr 2 Rf.cells ao5 l cap5 b5 0 := hr
              obtain ⟨r, hrj⟩ : ∃ r, l[j] = r := ⟨_, rfl⟩
              have c0' := hr.cell Rf.len j hjl 0 (.int .i64 r.e) (by rw [hrj]; rfl)
              have c1' := hr.cell Rf.len j hjl 1 (.int .i64 r.l) (by rw [hrj]; rfl)
              simp only [Nat.add_zero, Nat.zero_add] at c0' c1' hix
              have HRJ := Lib.hid hrj
              have HR1 : Hid r.Ok := Lib.hid (by rw [← hrj]; exact HRO.out _ (List.getElem_mem ..))
              have HTJ : Hid (l.take (j + 1) = l.take j ++ [r]) := Lib.hid (by rw [take_snoc _ _ hjl, hrj])
              have hzw := World.block_lt_of_cell? _ _ c0'
              clear hr hrj
              obtain ⟨s, hs⟩ : ∃ s, memB (refsOf (ms.take k) ++ l.take j) r = s := ⟨_, rfl⟩
              have hlk8 : (Instr.lookup 141 (.map (some (W1.heap.size + 1))) (.agg #[.int .i64 r.e, .int .i64 r.l]) false).run Tryz.prog (wr.alloc (.cells #[.int .i64 r.e, .int .i64 r.l] 51)) = .ok (.bool s) (wr.alloc (.cells #[.int .i64 r.e, .int .i64 r.l] 51)) := by
                have := (HW8.out.2.2.alloc (.cells #[.int .i64 r.e, .int .i64 r.l] 51)).look Tryz.underlying141 (fun w => Tryz.zeroValue4 w) (a := r) HR1.out _ rfl
                rw [setM_get, hs] at this
                exact this
              have HS := Lib.hid hs
              clear hs
              cases s with
              | true =>
                have HBD := Lib.hid (allMB_bad hlt (HOKL.out.trans (by
                  rw [List.all_eq_false]
                  refine ⟨r, by rw [← HRJ.out]; exact List.getElem_mem .., ?_⟩
                  have h := of_decide_eq_true HS.out
                  rcases List.mem_append.1 h with h | h
                  · simp [memB, h]
                  · exact absurd HND.out (nodup_take_bad hjl (by rw [HRJ.out]; exact h)))))
                go_wp2_with fail
                go_ret
                rw [HBD.out]
                exact ⟨rfl, HW1.out.trans (HW8.out.1.alloc _)⟩
              | false =>
                have HN9 : Hid (∀ i (hi : i < l.length), i < j + 1 → memB (refsOf (ms.take k)) l[i] = false) := Lib.hid (fun i hi hij => by
                  by_cases e : i < j
                  · exact HN8.out i hi e
                  · obtain rfl : i = j := by omega
                    rw [HRJ.out]
                    have h := of_decide_eq_false HS.out
                    exact decide_eq_false (fun c => h (List.mem_append_left _ c)))
                go_wp2_with (refine wpList_vstore (K := refK) rfl _ _ _ 141 rfl Tryz.underlying141 (W1.heap.size + 1) (800 * k + j) rfl (HW8.out.2.2.alloc _) (by unfold maxLen; omega) r HR1.out rfl (.bool true) rfl (setM (memB (refsOf (ms.take k) ++ l.take (j + 1)))) (by rw [HTJ.out, ← List.append_assoc]; exact (memB_snoc _ _).1) (fun d _ hd => by rw [HTJ.out, ← List.append_assoc]; exact (memB_snoc _ _).2 d hd) ?_; intro w9 hm9 hg9; have HX : Hid (Keeps W1 w9 ∧ w5.grownBy w9 (some (W1.heap.size + 1)) ∧ VMap refK w9 (W1.heap.size + 1) (800 * k + (j + 1)) (setM (memB (refsOf (ms.take k) ++ l.take (j + 1))))) := Lib.hid ⟨Below.grown (HW8.out.1.alloc _) hg9 (HW8.out.1.alloc _).size (fun q hq => by cases hq; exact Nat.le_succ _), (HW8.out.2.1.trans (World.grownBy_alloc _ _ _)).trans hg9, hm9⟩; clear hm9 hg9)
                go_roundw
                case rel => exact ⟨j + 1, by omega, by go_num, HN9, HX⟩
                case measure => simp [intOf]; omega
            · have HOE : Hid (okM es ms k = true) := Lib.hid (HOKL.out.trans (by
                rw [List.all_eq_true]
                intro r hr
                obtain ⟨i, hi, rfl⟩ := List.getElem_of_mem hr
                rw [HN8.out i hi (by omega)]; rfl))
              have HXK : Hid (Keeps W1 wr ∧ VMap intK wr W1.heap.size (k + 1) (seenI ((ms.take (k + 1)).map (fun q => q.x.id))) ∧ VMap refK wr (W1.heap.size + 1) (800 * (k + 1)) (setM (memB (refsOf (ms.take (k + 1)))))) := Lib.hid ⟨HW8.out.1, HI5.out.kept HW8.out.2.1 (by simp), by
                have h := HW8.out.2.2
                rw [List.take_of_length_le (l := l) (i := j) (by omega)] at h
                rw [HRS.out]
                exact h.mono (by omega)⟩
              go_wp2_with fail
              go_roundw
              case rel => exact ⟨k + 1, by omega, by go_num, Lib.hid (fun i hi => by by_cases h : i < k; (exact HN.out i h); (rw [show i = k from by omega]; exact HOE.out)), HXK⟩
              case measure => simp [intOf]; omega
    · have HGD := Lib.hid (allMB_good (es := es) (ms := ms) (fun j hj => HN.out j (by omega)))
      by_cases h3 : ms.length ≤ 300
      · have e3 : decide ((ms.length : Int) ≤ 300) = true := decide_eq_true (by omega)
        rw [decide_eq_true h3] at HGD
        clear h3
        go_wp2_with fail
        go_ret
        rw [HGD.out]
        exact ⟨rfl, HW1.out.trans HW.out.1⟩
      · have e3 : decide ((ms.length : Int) ≤ 300) = false := decide_eq_false (by omega)
        rw [decide_eq_false h3] at HGD
        clear h3
        go_wp2_with fail
        go_ret
        rw [HGD.out]
        exact ⟨rfl, HW1.out.trans HW.out.1⟩
end Go.Proofs.YtoaidbhiciaeaaaGreat

end
section
namespace Go.Proofs.YtoaidbhiciaeaaaGreat
open Go.RowKit
set_option linter.unusedSimpArgs false
set_option linter.unusedVariables false
structure Itm where
  ref : Rf
  ent : Int
  acc : Int
  ptn : Int
  date : Int
  amt : Int
def Itm.cells (i : Itm) : List Value := [.int .i64 i.ref.e, .int .i64 i.ref.l, .int .i64 i.ent, .int .i64 i.acc, .int .i64 i.ptn, .int .i64 i.date, .int .i64 i.amt]
def Itm.val (i : Itm) : Value := .agg #[.int .i64 i.ref.e, .int .i64 i.ref.l, .int .i64 i.ent, .int .i64 i.acc, .int .i64 i.ptn, .int .i64 i.date, .int .i64 i.amt]
def Itm.zero : Itm := ⟨⟨0, 0⟩, 0, 0, 0, 0, 0⟩
theorem Itm.len (i : Itm) : i.cells.length = 7 := rfl
theorem Itm.one (i : Itm) : ∀ v ∈ i.cells, v.oneCell' = true := by
  intro v hv
  simp only [Itm.cells, List.mem_cons, List.not_mem_nil, or_false] at hv
  rcases hv with rfl | rfl | rfl | rfl | rfl | rfl | rfl <;> rfl
def findI (l : List Itm) (r : Rf) : Option Itm := l.find? (fun x => decide (x.ref = r))
def itemsM (l : List Itm) : Rf → Option Value := fun r => (findI l r).map Itm.val
theorem findI_append (l : List Itm) (x : Itm) (r : Rf) : findI (l ++ [x]) r = match findI l r with | some y => some y | none => if x.ref = r then some x else none := by
  unfold findI
  rw [List.find?_append]
  cases l.find? (fun x => decide (x.ref = r)) with
  | some y => rfl
  | none =>
    by_cases h : x.ref = r <;> simp [List.find?, h]
theorem itemsM_old {l : List Itm} {x y : Itm} (h : findI l x.ref = some y) : itemsM (l ++ [x]) = itemsM l := by
  funext r
  unfold itemsM
  rw [findI_append]
  cases hr : findI l r with
  | some z => rfl
  | none =>
    have : x.ref ≠ r := fun e => by rw [e] at h; rw [h] at hr; cases hr
    simp [this]
theorem itemsM_new {l : List Itm} {x : Itm} (h : findI l x.ref = none) : itemsM (l ++ [x]) x.ref = some x.val ∧ ∀ d, d ≠ x.ref → itemsM (l ++ [x]) d = itemsM l d := by
  unfold itemsM
  refine ⟨by rw [findI_append, h]; simp, fun d hd => ?_⟩
  rw [findI_append]
  cases hr : findI l d with
  | some z => rfl
  | none => simp [Ne.symm hd]
def errI (g : Grp) (es : List JV) (hs : List Hol) (ms : List MV) (p : Int) : Int := if grpB g = true ∧ hvalidB (g.ents.length : Int) hs = true ∧ allMB es ms = true then (if p < 0 ∨ g.n ≤ p then 2 else 0) else 1
def dayA (g : Grp) (p : Int) : Int := (yrF g.y g.m g.n p).1
def dayB (g : Grp) (p : Int) : Int := (lasF g.y g.m g.n p).1
theorem grpB_cal {g : Grp} (h : grpB g = true) : calB g.y g.m g.n = true := by
  unfold grpB at h
  simp only [Bool.and_eq_true] at h
  exact h.2.1
theorem chk_grp {g : Grp} (h : grpB g = true) (p : Int) : chkF g.y g.m g.n p = if p < 0 ∨ g.n ≤ p then 2 else 0 := by unfold chkF; rw [if_pos (grpB_cal h)]
structure BkG (w : World) (bv : List Value) (g : Grp) (es : List JV) (hs : List Hol) (ms : List MV) : Prop where
  bks : Bks w bv es ms
  grp : ∃ aoC capC bC oC aoE capE bE oE, (∀ (j : Nat) (v : Value), (g.cells (.slice aoC g.chart.length capC) (.slice aoE g.ents.length capE))[j]? = some v → bv[j]? = some v) ∧ Accs w aoC g.chart capC bC oC ∧ EntsV w aoE g.ents capE bE oE
  hol : ∃ ao cap b o, bv[23]? = some (.slice ao hs.length cap) ∧ Hols w ao hs cap b o
theorem BkG.keeps {w w' : World} {bv : List Value} {g : Grp} {es : List JV} {hs : List Hol} {ms : List MV} (h : BkG w bv g es hs ms) (k : Keeps w w') : BkG w' bv g es hs ms := by
  obtain ⟨aoC, capC, bC, oC, aoE, capE, bE, oE, h1, h2, h3⟩ := h.grp
  obtain ⟨ao, cap, b, o, h4, h5⟩ := h.hol
  exact ⟨h.bks.keeps k, ⟨aoC, capC, bC, oC, aoE, capE, bE, oE, h1, h2.keeps k, h3.keeps k⟩, ⟨ao, cap, b, o, h4, h5.keeps k⟩⟩
structure SmallB (g : Grp) (es : List JV) (hs : List Hol) (ms : List MV) (items : List Itm) : Prop where
  gok : g.Ok
  lines : ∀ e ∈ es, e.x.lines.length ≤ 8
  hlen : hs.length ≤ 900
  hok : ∀ x ∈ hs, x.Ok
  sides : ∀ m ∈ ms, m.x.left.length ≤ 400 ∧ m.x.right.length ≤ 400
  ids : ∀ m ∈ ms, I64 m.x.id
  mlen : ms.length ≤ 1000
  ilen : items.length ≤ 1000
  iref : ∀ x ∈ items, x.ref.Ok
def finC (bv : List Value) (mb : Nat) (a b : Int) : List Value := bv ++ [.map (some mb), .int .i64 a, .int .i64 b]
structure Fin (w : World) (B mb : Nat) (bv : List Value) (items : List Itm) (a b : Int) : Prop where
  box : w.rangeAt B 0 (finC bv mb a b)
  map : ∃ n, n ≤ 1000 ∧ VMap refK w mb n (itemsM items)
theorem Fin.keeps {w w' : World} {B mb : Nat} {bv : List Value} {items : List Itm} {a b : Int} (h : Fin w B mb bv items a b) (k : Keeps w w') : Fin w' B mb bv items a b := by
  obtain ⟨n, hn, hm⟩ := h.map
  exact ⟨range_keeps h.box k, n, hn, hm.keeps k⟩
theorem list27 {bv : List Value} (h : bv.length = 27) : ∃ b0 b1 b2 b3 b4 b5 b6 b7 b8 b9 b10 b11 b12 b13 b14 b15 b16 b17 b18 b19 b20 b21 b22 b23 b24 b25 b26, bv = [b0, b1, b2, b3, b4, b5, b6, b7, b8, b9, b10, b11, b12, b13, b14, b15, b16, b17, b18, b19, b20, b21, b22, b23, b24, b25, b26] := by
  match bv, h with
  | [b0, b1, b2, b3, b4, b5, b6, b7, b8, b9, b10, b11, b12, b13, b14, b15, b16, b17, b18, b19, b20, b21, b22, b23, b24, b25, b26], _ => exact ⟨_, _, _, _, _, _, _, _, _, _, _, _, _, _, _, _, _, _, _, _, _, _, _, _, _, _, _, rfl⟩
set_option maxRecDepth 100000 in
theorem run_finder (bv : List Value) (h : bv.length = 27) (mb : Nat) (a b : Int) (w : World) : (Instr.build 110 #[(0, .agg bv.toArray), (1, .map (some mb)), (2, .int .i64 a), (3, .int .i64 b)]).run Tryz.prog w = .ok (.agg (finC bv mb a b).toArray) w := by
  obtain ⟨b0, b1, b2, b3, b4, b5, b6, b7, b8, b9, b10, b11, b12, b13, b14, b15, b16, b17, b18, b19, b20, b21, b22, b23, b24, b25, b26, rfl⟩ := list27 h
  exact run_build w _ _ _ (by kernel_rfl)
theorem wpList_bfin {w : World} {ops : Array Oper} {rest : List Oper} {op : Oper} {a : Act} {Q : Exit → Act → World → Prop} (hgd : op.guard = none) (s t x y : Operand) (ho : op.op = Op.build 110 #[(0, s), (1, t), (2, x), (3, y)])
    (bv : List Value) (hbl : bv.length = 27) (mb : Nat) (A B : Int) (hs : a.eval s = .agg bv.toArray) (ht : a.eval t = .map (some mb)) (hx : a.eval x = .int .i64 A) (hy : a.eval y = .int .i64 B)
    (h : wpList Tryz.prog ops Q rest (a.put op.dst (.agg (finC bv mb A B).toArray)) w) : wpList Tryz.prog ops Q (op :: rest) a w := by
  refine wpList_plain hgd fun KK hKK => ?_
  have hr := run_finder bv hbl mb A B w
  unfold Oper.wp
  simp only [execOp, ho]
  simp [hs, ht, hx, hy, hr, Result.andThen]
  exact hKK _ _ h
end Go.Proofs.YtoaidbhiciaeaaaGreat

end
section
namespace Go.Proofs.YtoaidbhiciaeaaaGreat
open Go.RowKit
set_option linter.unusedSimpArgs false
set_option linter.unusedVariables false
section
variable {P : Program} {ops : Array Oper} {Q : Exit → Act → World → Prop} {R : World → World → Prop}
abbrev Find2 := Nat → (Nat → Value) → World → Prop
def upd2 (f : Nat → Value) (k : Nat) (v : Value) : Nat → Value := fun j => if j = k then v else f j
def Holds2 (V : Find2) (f : Nat → Value) (w : World) : List Nat → Prop
  | [] => True
  | j :: js => V j f w ∧ Holds2 V f w js
theorem Holds2.of {V : Find2} {f : Nat → Value} {w : World} : ∀ {l : List Nat}, (∀ j ∈ l, V j f w) → Holds2 V f w l
  | [], _ => trivial
  | j :: js, h => ⟨h j (by simp), Holds2.of fun k hk => h k (by simp [hk])⟩
theorem Holds2.get {V : Find2} {f : Nat → Value} {w : World} : ∀ {l : List Nat}, Holds2 V f w l → ∀ j ∈ l, V j f w
  | j :: js, h, k, hk => by
    rcases List.mem_cons.1 hk with rfl | hk
    · exact h.1
    · exact h.2.get k hk
def also2 (V : Find2) (k : Nat) (W : (Nat → Value) → World → Prop) : Find2 := fun j => bif Nat.beq j k then W else V j
theorem also2_same {V : Find2} {k : Nat} {W : (Nat → Value) → World → Prop} : also2 V k W k = W := by simp [also2]
theorem also2_ne {V : Find2} {k j : Nat} {W : (Nat → Value) → World → Prop} (h : j ≠ k) : also2 V k W j = V j := by
  unfold also2
  have : Nat.beq j k = false := by (cases e : Nat.beq j k; rfl; exact absurd (Nat.eq_of_beq_eq_true e) h)
  rw [this]; rfl
def noneYet2 : Find2 := fun _ _ _ => True
def StepOk2 (P : Program) (ops : Array Oper) (Q : Exit → Act → World → Prop) (R : World → World → Prop) (o : Oper) (k : Nat) (f : Nat → Value) (A : Act) (w' : World) (V : (Nat → Value) → World → Prop) : Prop :=
  if Region.wanted o (yielded ops A.tmps) = true then o.wp P A w' (fun a2 w2 => ∃ v, a2 = A.put o.dst v ∧ V (upd2 f k v) w2 ∧ R w' w2) Q else V (upd2 f k undef) w'
inductive Steps2 (P : Program) (ops : Array Oper) (Q : Exit → Act → World → Prop) (R : World → World → Prop) (A : (Nat → Value) → Act) (w : World) (D : List (List Nat)) : Nat → Find2 → Prop
  | last {V : Find2} (h : ∀ f w', R w w' → (∀ j < ops.size, V j f w') → Q .normal (A f) w') : Steps2 P ops Q R A w D ops.size V
  | cons {k : Nat} {V : Find2} {o : Oper} (W : (Nat → Value) → World → Prop) (ho : ops[k]? = some o) (hst : ∀ f w1 w2, R w1 w2 → W f w1 → W f w2) (hfd : ∀ f f' w, f k = f' k → (∀ i ∈ D.getD k [], f i = f' i) → W f w → W f' w)
      (h : ∀ f w', R w w' → Holds2 V f w' (D.getD k []) → StepOk2 P ops Q R o k f (A f) w' W) (hr : Steps2 P ops Q R A w D (k + 1) (also2 V k W)) : Steps2 P ops Q R A w D k V
theorem Steps2.le {A : (Nat → Value) → Act} {w : World} {D : List (List Nat)} {k : Nat} {V : Find2} (h : Steps2 P ops Q R A w D k V) : k ≤ ops.size := by
  induction h with
  | last h => exact Nat.le_refl _
  | cons W ho hst hfd h hr ih => omega
theorem Steps2.all {A : (Nat → Value) → Act} {w : World} {D : List (List Nat)} (hD : depsOk ops D = true) {k : Nat} {V : Find2} (hs : Steps2 P ops Q R A w D k V) :
    ∃ U : Find2, (∀ j < k, U j = V j) ∧
      (∀ i o, k ≤ i → ops[i]? = some o → ((∀ f w1 w2, R w1 w2 → U i f w1 → U i f w2) ∧ ∀ f f' w, f i = f' i → (∀ j ∈ D.getD i [], f j = f' j) → U i f w → U i f' w) ∧
        ∀ f w', R w w' → Holds2 U f w' (D.getD i []) → StepOk2 P ops Q R o i f (A f) w' (U i)) ∧
      (∀ f w', R w w' → (∀ j < ops.size, U j f w') → Q .normal (A f) w') := by
  induction hs with
  | last h => exact ⟨_, fun _ _ => rfl, fun i o hi ho => absurd (Array.getElem?_eq_some_iff.1 ho).1 (by omega), h⟩
  | @cons k V o W ho hst hfd h hr ih =>
    obtain ⟨U, hU, h1, h2⟩ := ih
    have hUk : U k = W := (hU k (by omega)).trans also2_same
    refine ⟨U, fun j hj => (hU j (by omega)).trans (also2_ne (by omega)), fun i oi hi hoi => ?_, h2⟩
    by_cases hk : i = k
    · subst hk
      rw [ho] at hoi
      obtain rfl : o = oi := by simpa using hoi
      rw [hUk]
      refine ⟨⟨hst, hfd⟩, fun f w' hw hH => h f w' hw (Holds2.of fun j hj => ?_)⟩
      have hji := (depsOk_spec hD ho hj).1
      have := hH.get j hj
      rw [hU j (by omega), also2_ne (by omega)] at this
      exact this
    · exact h1 i oi (by omega) hoi
theorem steps2_any {w : World} {A : (Nat → Value) → Act} {a : Act} {D : List (List Nat)} (hd : dstsApart ops = true) (he : edgesOk ops = true) (hD : depsOk ops D = true) (hA : ∀ f, putAll ops a f ops.size = A f)
    (hR0 : ∀ w, R w w) (hR : ∀ w1 w2 w3, R w1 w2 → R w2 w3 → R w1 w3) (U : Find2)
    (h1 : ∀ i o, ops[i]? = some o → ((∀ f w1 w2, R w1 w2 → U i f w1 → U i f w2) ∧ ∀ f f' w, f i = f' i → (∀ j ∈ D.getD i [], f j = f' j) → U i f w → U i f' w) ∧
        ∀ f w', R w w' → Holds2 U f w' (D.getD i []) → StepOk2 P ops Q R o i f (A f) w' (U i))
    (h2 : ∀ f w', R w w' → (∀ j < ops.size, U j f w') → Q .normal (A f) w') :
    ∀ (fuel : Nat) (listed : Array Bool) (f : Nat → Value) (w' : World), listed.size = ops.size → (∀ i < ops.size, listed.getD i false = true → U i f w') →
      (∀ i o, ops[i]? = some o → listed.getD i false = true → ∀ e ∈ o.after, Region.binds .any e = true → listed.getD e.on false = true) →
      R w w' → unl listed ops.size ≤ fuel → wpAny P .any ops Q fuel listed (A f) w' := by
  intro fuel
  have fin : ∀ (listed : Array Bool) (f : Nat → Value) (w' : World), (∀ i < ops.size, listed.getD i false = true) → (∀ i < ops.size, listed.getD i false = true → U i f w') → R w w' → Q .normal (A f) w' := by
    intro listed f w' hall hV hw
    exact h2 f w' hw fun j hj => hV j hj (hall j hj)
  induction fuel with
  | zero =>
    intro listed f w' hs hV _ hw hf
    have hall := unl_zero (Nat.le_zero.1 hf)
    refine ⟨?_, fin listed f w' hall hV hw⟩
    refine List.eq_nil_iff_forall_not_mem.2 fun i hi => ?_
    obtain ⟨h0, o, ho, _⟩ := mem_ready.1 hi
    have hlt := (Array.getElem?_eq_some_iff.1 ho).1
    rw [getD_tf (by omega), hall i hlt] at h0
    cases h0
  | succ fuel ih =>
    intro listed f w' hs hV hcl hw hf
    refine ⟨fun hr => fin listed f w' (ready_of_unl he hs hr) hV hw, fun i hi => ?_⟩
    obtain ⟨h0, o, ho, hall⟩ := mem_ready.1 hi
    have hlt := (Array.getElem?_eq_some_iff.1 ho).1
    rw [getD_tf (by omega)] at h0
    obtain ⟨hst, hstep⟩ := h1 i o ho
    have hdep : ∀ n, ∀ j o', j ≤ n → ops[j]? = some o' → (∀ e ∈ o'.after, Region.binds .any e = true → listed.getD e.on false = true) → ∀ k ∈ D.getD j [], k < ops.size ∧ listed.getD k false = true := by
      intro n
      induction n with
      | zero =>
        intro j o' hj ho' hl k hk
        have := (depsOk_spec hD ho' hk).1
        omega
      | succ n ihn =>
        intro j o' hj ho' hl k hk
        have hjlt := (Array.getElem?_eq_some_iff.1 ho').1
        obtain ⟨hkj, e, hem, hb, hor⟩ := depsOk_spec hD ho' hk
        rcases hor with rfl | hin
        · exact ⟨by omega, hl e hem hb⟩
        · have hej := edgesOk_spec he ho' hem hb
          have hoe : ops[e.on]? = some (ops[e.on]'(by omega)) := Array.getElem?_eq_some_iff.2 ⟨by omega, rfl⟩
          exact ihn e.on _ (by omega) hoe (hcl e.on _ hoe (hl e hem hb)) k hin
    have hH : Holds2 U f w' (D.getD i []) := by
      refine Holds2.of fun j hj => ?_
      obtain ⟨ha, hb⟩ := hdep i i o (Nat.le_refl _) ho hall j hj
      exact hV j ha hb
    have hs1 := hstep f w' hw hH
    have key : ∀ v w2, U i (upd2 f i v) w2 → R w' w2 → wpAny P .any ops Q fuel (listed.setIfInBounds i true) ((A f).put o.dst v) w2 := by
      intro v w2 hv hr2
      have hg : A (upd2 f i v) = (A f).put o.dst v := by
        rw [← hA, ← hA, putAll_upd hd (f := f) (i := i) (v := v) (fun j hj => by simp [upd2, hj]) (by simp [upd2]) hlt (Nat.le_refl _), ho]
        rfl
      rw [← hg]
      refine ih _ _ w2 (by simpa using hs) (fun j hj hl => ?_) (fun j oj hoj hl e hem hb => ?_) (hR _ _ _ hw hr2) (by have := unl_set (by omega) h0 hlt; omega)
      · by_cases hji : j = i
        · subst hji; exact hv
        · rw [getD_set_ne false (fun e => hji e.symm)] at hl
          have hoj : ops[j]? = some ops[j] := Array.getElem?_eq_some_iff.2 ⟨hj, rfl⟩
          have hU := (h1 j _ hoj).1
          refine hU.2 f _ w2 (by simp [upd2, hji]) (fun q hq => ?_) (hU.1 f w' w2 hr2 (hV j hj hl))
          have hqi : q ≠ i := fun e => by
            have := (hdep j j _ (Nat.le_refl _) hoj (hcl j _ hoj hl) q hq).2
            rw [e, h0] at this
            cases this
          simp [upd2, hqi]
      · by_cases hji : j = i
        · subst hji
          rw [ho] at hoj
          obtain rfl : o = oj := by simpa using hoj
          exact getD_set_true (hall e hem hb)
        · rw [getD_set_ne false (fun e => hji e.symm)] at hl
          exact getD_set_true (hcl j oj hoj hl e hem hb)
    unfold wpOp
    simp only [ho]
    unfold StepOk2 at hs1
    split
    · rename_i hw1
      rw [if_pos hw1] at hs1
      refine .inl (Oper.wp_mono ?_ hs1)
      rintro a2 w2 ⟨v, rfl, hv, hr2⟩
      exact key v w2 hv hr2
    · rename_i hw1
      rw [if_neg hw1] at hs1
      exact key undef w' hs1 (hR0 w')
theorem wp_region_steps2 {id : Nat} {a : Act} {w : World} {A : (Nat → Value) → Act} (R : World → World → Prop) (ds : List (Option Tmp)) (D : List (List Nat)) (n : Nat) (hm : P.follows .mixedOrders = true)
    (hds : ops.toList.map (·.dst) = ds) (_hn : ops.size = n) (hd : dstsApart ops = true) (he : edgesOk ops = true) (hD : depsOk ops D = true) (hR0 : ∀ w, R w w) (hR : ∀ w1 w2 w3, R w1 w2 → R w2 w3 → R w1 w3)
    (hA : ∀ f, putL f ds 0 a = A f) (h : Steps2 P ops Q R A w.drew D 0 noneYet2) : (Code.region id ops true).wp P Q a w := by
  obtain ⟨U, _, h1, h2⟩ := h.all hD
  have hA' : ∀ f, putAll ops a f ops.size = A f := fun f => by
    rw [putAll_putL _ (Nat.le_refl _), ← hA, ← hds]
    rw [List.take_of_length_le (by simp)]
  refine wp_region_any hm ?_
  have h0 := putAll_self (ops := ops) (a := a) (f := fun i => (match (ops[i]?).bind (·.dst) with | some d => a.tmps.getD d undef | none => undef)) (fun i => rfl) ops.size
  rw [hA'] at h0
  rw [← h0]
  refine steps2_any hd he hD hA' hR0 hR U (fun i o ho => h1 i o (Nat.zero_le _) ho) h2 _ _ _ _ (by simp) (fun i hi hl => ?_) (fun i o ho hl => ?_) (hR0 _) ?_
  · simp [hi] at hl
  · have := (Array.getElem?_eq_some_iff.1 ho).1
    simp [this] at hl
  · have : ∀ (l : Array Bool) k, unl l k ≤ k := by
      intro l k
      induction k with
      | zero => exact Nat.le_refl _
      | succ k ih => simp only [unl]; split <;> omega
    exact this _ _
section
variable {A : (Nat → Value) → Act} {w : World} {D : List (List Nat)} {k : Nat} {V : Find2} {o : Oper}
theorem Steps2.done (E : List Nat) (hE : E.all (fun j => decide (j < ops.size)) = true) (hk : ops.size = k) (h : ∀ f w', R w w' → Holds2 V f w' E → Q .normal (A f) w') : Steps2 P ops Q R A w D k V := by
  subst hk
  exact .last fun f w' hw hV => h f w' hw (Holds2.of fun j hj => hV j (by simpa using List.all_eq_true.1 hE j hj))
theorem Steps2.pure (v : Value) (hR0 : ∀ w, R w w) (ho : ops[k]? = some o)
    (hw : ∀ f w', R w w' → Holds2 V f w' (D.getD k []) → Region.wanted o (yielded ops (A f).tmps) = true ∧ (execOp (A f).eval o).run P w' = .ok (.value v) w') (hr : Steps2 P ops Q R A w D (k + 1) (also2 V k (fun f _ => f k = v))) : Steps2 P ops Q R A w D k V := by
  refine .cons _ ho (fun _ _ _ _ h => h) (fun f f' _ h _ hf => h.symm.trans hf) (fun f w' h1 h2 => ?_) hr
  obtain ⟨h3, h4⟩ := hw f w' h1 h2
  unfold StepOk2
  rw [if_pos h3]
  unfold Oper.wp
  rw [h4]
  exact ⟨v, rfl, by simp [upd2], hR0 _⟩
theorem Steps2.skip (ho : ops[k]? = some o)
    (hw : ∀ f w', R w w' → Holds2 V f w' (D.getD k []) → Region.wanted o (yielded ops (A f).tmps) = false) (hr : Steps2 P ops Q R A w D (k + 1) (also2 V k (fun f _ => f k = undef))) : Steps2 P ops Q R A w D k V := by
  refine .cons _ ho (fun _ _ _ _ h => h) (fun f f' _ h _ hf => h.symm.trans hf) (fun f w' h1 h2 => ?_) hr
  unfold StepOk2
  rw [if_neg (by rw [hw f w' h1 h2]; simp)]
  simp [upd2]
def StepPost2 (R : World → World → Prop) (A : Act) (o : Oper) (k : Nat) (f : Nat → Value) (W : (Nat → Value) → World → Prop) (w' : World) : Act → World → Prop := fun a2 w2 => ∃ v, a2 = A.put o.dst v ∧ W (upd2 f k v) w2 ∧ R w' w2
theorem StepPost2.of {B : Act} {k : Nat} {f : Nat → Value} {W : (Nat → Value) → World → Prop} {w1 w2 : World} {a2 : Act} (v : Value) (h : a2 = B.put o.dst v) (hW : W (upd2 f k v) w2) (hr : R w1 w2) : StepPost2 R B o k f W w1 a2 w2 := ⟨v, h, hW, hr⟩
theorem Steps2.call (W : (Nat → Value) → World → Prop) (ho : ops[k]? = some o) (hst : ∀ f w1 w2, R w1 w2 → W f w1 → W f w2) (hfd : ∀ f f' w, f k = f' k → (∀ i ∈ D.getD k [], f i = f' i) → W f w → W f' w)
    (hw : ∀ f w', R w w' → Holds2 V f w' (D.getD k []) → Region.wanted o (yielded ops (A f).tmps) = true ∧ o.wp P (A f) w' (StepPost2 R (A f) o k f W w') Q) (hr : Steps2 P ops Q R A w D (k + 1) (also2 V k W)) : Steps2 P ops Q R A w D k V := by
  refine .cons _ ho hst hfd (fun f w' h1 h2 => ?_) hr
  obtain ⟨h3, h4⟩ := hw f w' h1 h2
  unfold StepOk2
  rw [if_pos h3]
  exact h4
end
end
structure RV (N n : Nat) (C : List Value) (w w' : World) : Prop where
  size : w.heap.size ≤ w'.heap.size
  keep : ∀ w0 : World, w0.heap.size ≤ N → Keeps w0 w → Keeps w0 w'
  th : ∀ b, w.there b 0 n → w'.there b 0 n
  rg : ∀ b, w.rangeAt b 0 C → w'.rangeAt b 0 C
variable {N n : Nat} {C : List Value}
theorem RV.refl (w : World) : RV N n C w w := ⟨Nat.le_refl _, fun _ _ h => h, fun _ h => h, fun _ h => h⟩
theorem RV.trans {a b c : World} (h : RV N n C a b) (k : RV N n C b c) : RV N n C a c := ⟨Nat.le_trans h.size k.size, fun w0 h0 h1 => k.keep w0 h0 (h.keep w0 h0 h1), fun q h1 => k.th q (h.th q h1), fun q h1 => k.rg q (h.rg q h1)⟩
theorem RV.keeps {a b : World} (h : Keeps a b) : RV N n C a b := ⟨h.size, fun w0 _ h1 => h1.trans h, fun q h1 => there_keeps h1 h, fun q h1 => range_keeps h1 h⟩
theorem RV.set {w : World} {b : Nat} (hb : N ≤ b) (ht : w.there b 0 C.length) : RV N n C w (w.setCells b 0 C) :=
  ⟨by rw [size_sets]; exact Nat.le_refl _, fun w0 h0 h1 => keeps_setCellsP (Nat.le_trans h0 hb) _ _ _ h1, fun q h1 => there_set h1, fun q h1 => by
    by_cases e : q = b
    · subst e; exact World.rangeAt_setCells_same _ _ _ _ ht
    · exact range_setCells h1 e _⟩
end Go.Proofs.YtoaidbhiciaeaaaGreat

end
