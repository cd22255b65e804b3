/- The law on reversed entries: the walk. UNFINISHED. -/
import Derived.Test.YtfddhmhagijodaaLawPNet
import Derived.Test.YtfddhmhagijodaaPDatQ
import Derived.Test.YtfddhmhagijodaaPRevQ
import Derived.Test.YtfddhmhagijodaaPRevR
import Derived.Test.YtfddhmhagijodaaEnOpen
namespace Go.Proofs.Ytfddhmhagijodaa
open Go.RowKit
set_option linter.unusedSimpArgs false
set_option linter.unusedVariables false

theorem Sl.two {w : World} {bx sz : Nat} {cs : List Value} (hl : cs.length = 2 * sz) (h : ∀ j u, cs[j]? = some u → w.cell? ⟨bx, j, none⟩ = some u) : Sl w sz (some ⟨bx, 0, none⟩) 2 2 bx 0 cs :=
  ⟨hl, Nat.le_refl _, (fun h => by cases h), by omega, fun _ => rfl, fun j u hu => by rw [Nat.zero_add]; exact h j u hu⟩
theorem ones_jv (l : List JV) : ∀ u ∈ l.flatMap JV.cells, u.oneCell' = true := fun u hu => by
  obtain ⟨a, _, hu⟩ := List.mem_flatMap.1 hu
  exact a.one u hu
set_option maxRecDepth 100000 in
set_option maxHeartbeats 8000000 in
theorem lawRev_any (bv : List Value) (es : List JV) (ms : List MV) (y : JV) (qe qp qd : Int) (w : World) (H : Bks w bv es ms) (HY : y.In w) :
    Calls Try.prog 5 #[.agg bv.toArray, .agg #[.int .i64 y.x.id, .int .i64 y.x.ent, .int .i64 y.x.date, .int .i64 y.x.kind, .int .i64 y.x.of_, .string y.x.text, .slice y.a y.x.lines.length y.c], .agg #[.int .i64 qe, .int .i64 qp, .int .i64 qd]] w fun e w' => e = .returned (.bool true) ∧ Keeps w w' := by
  have HB := Lib.hid H
  have HYI := Lib.hid HY
  have hbl := H.len
  have hyle := Sl.le HY.1
  have hycap := Sl.cap HY.1
  have hrg := box_range w bv 36
  have hk0 : Keeps w (w.alloc (.cells bv.toArray 36)) := (Keeps.refl w).alloc _
  have hz0 : (w.alloc (.cells bv.toArray 36)).heap.size = w.heap.size + 1 := by simp
  obtain ⟨W1, hW1⟩ : ∃ W1, w.alloc (.cells bv.toArray 36) = W1 := ⟨_, rfl⟩
  rw [hW1] at hrg hk0 hz0
  have HK0 : Hid (Keeps w ((W1.alloc (.cells #[.int .i64 y.x.id, .int .i64 y.x.ent, .int .i64 y.x.date, .int .i64 y.x.kind, .int .i64 y.x.of_, .string y.x.text, .slice y.a y.x.lines.length y.c] 50)).alloc (.cells #[.int .i64 qe, .int .i64 qp, .int .i64 qd] 38))) := Lib.hid ((hk0.alloc _).alloc _)
  have HBX : Hid (∀ W, Keeps ((W1.alloc (.cells #[.int .i64 y.x.id, .int .i64 y.x.ent, .int .i64 y.x.date, .int .i64 y.x.kind, .int .i64 y.x.of_, .string y.x.text, .slice y.a y.x.lines.length y.c] 50)).alloc (.cells #[.int .i64 qe, .int .i64 qp, .int .i64 qd] 38)) W → W.rangeAt w.heap.size 0 bv ∧ BoxX W (w.heap.size + 1) y ∧ W.cell? ⟨w.heap.size + 1 + 1, 0, none⟩ = some (.int .i64 qe) ∧ W.cell? ⟨w.heap.size + 1 + 1, 1, none⟩ = some (.int .i64 qp) ∧ W.cell? ⟨w.heap.size + 1 + 1, 2, none⟩ = some (.int .i64 qd)) := Lib.hid (fun W hW => by
    refine ⟨range_keeps (range_keeps hrg (((Keeps.refl W1).alloc _).alloc _)) hW, BoxX.keeps (w := ((W1.alloc (.cells #[.int .i64 y.x.id, .int .i64 y.x.ent, .int .i64 y.x.date, .int .i64 y.x.kind, .int .i64 y.x.of_, .string y.x.text, .slice y.a y.x.lines.length y.c] 50)).alloc (.cells #[.int .i64 qe, .int .i64 qp, .int .i64 qd] 38))) ?_ hW, hW.cell ?_, hW.cell ?_, hW.cell ?_⟩
    · rw [← hz0]; exact ⟨by go_simp, by go_simp, by go_simp, by go_simp, by go_simp, by go_simp, by go_simp⟩
    · rw [← hz0]; go_simp
    · rw [← hz0]; go_simp
    · rw [← hz0]; go_simp)
  clear hrg hk0 HY
  cases hf : fewB es ms with
  | false =>
    have HF : Hid (∀ W, Keeps w W → Calls Try.prog 11 #[.agg bv.toArray] W fun e w' => e = .returned (.bool false) ∧ Keeps W w') := Lib.hid (fun W hW => by have := few_any bv es ms W (HB.out.keeps hW); rw [hf] at this; exact this)
    clear hf H
    go_enter Try.func5, Try.ntmps5
    go_wp2_with (first | (go_at_call 10; first | (guard_hyp hk1 : _; refine (pawake_any _).mono ?_; rintro e w3 ⟨rfl, hk3⟩) | (refine (pawake_any _).mono ?_; rintro e w1 ⟨rfl, hk1⟩; have K1 := Lib.hid (HK0.out.trans hk1); have hrg1 := (HBX.out _ hk1).1; have y6 := (HBX.out _ hk1).2.1.c6)) | (refine wpList_booksG (.tmp 3) rfl rfl w.heap.size bv hbl rfl hrg1 ?_) | (go_at_call 11; refine (HF.out _ K1.out).mono ?_; rintro e w2 ⟨rfl, hk2⟩; have K2 := Lib.hid (K1.out.trans hk2); replace y6 := hk2.cell y6))
    go_ret
    exact ⟨rfl, K2.out.trans hk3⟩
  | true =>
    obtain ⟨hl8, hn40, _, _⟩ := fewB_spec hf
    have HF : Hid (∀ W, Keeps w W → Calls Try.prog 11 #[.agg bv.toArray] W fun e w' => e = .returned (.bool true) ∧ Keeps W w') := Lib.hid (fun W hW => by have := few_any bv es ms W (HB.out.keeps hW); rw [hf] at this; exact this)
    by_cases hy8 : y.x.lines.length ≤ 8
    · have e8 : decide ((8 : Int) < (y.x.lines.length : Int)) = false := by simp; omega
      clear hf H
      go_enter Try.func5, Try.ntmps5
      go_upto_region 3 with (first | (go_at_call 10; refine (pawake_any _).mono ?_; rintro e w1 ⟨rfl, hk1⟩; have K1 := Lib.hid (HK0.out.trans hk1); have hrg1 := (HBX.out _ hk1).1; have y6 := (HBX.out _ hk1).2.1.c6) | (refine wpList_booksG (.tmp 3) rfl rfl w.heap.size bv hbl rfl hrg1 ?_) | (go_at_call 11; refine (HF.out _ K1.out).mono ?_; rintro e w2 ⟨rfl, hk2⟩; have K2 := Lib.hid (K1.out.trans hk2); replace y6 := hk2.cell y6))
      obtain ⟨c0, c1, c2, c3, c4, c5, c6⟩ := (HBX.out _ (hk1.trans hk2)).2.1
      have HBX2 : Hid (∀ W, Keeps w2 W → W.rangeAt w.heap.size 0 bv ∧ BoxX W (w.heap.size + 1) y ∧ W.cell? ⟨w.heap.size + 1 + 1, 0, none⟩ = some (.int .i64 qe) ∧ W.cell? ⟨w.heap.size + 1 + 1, 1, none⟩ = some (.int .i64 qp) ∧ W.cell? ⟨w.heap.size + 1 + 1, 2, none⟩ = some (.int .i64 qd)) := Lib.hid (fun W hW => HBX.out W ((hk1.trans hk2).trans hW))
      have hbx := World.block_lt_of_cell? _ _ c0
      simp only at hbx
      clear hk1 hk2 hrg1 y6
      go_wp2_with fail
      obtain ⟨id2, hid2⟩ : ∃ i, wrap64 (y.x.id + 1) = i := ⟨_, rfl⟩
      have hy0 : YBx (w2.alloc (.cells #[.int .i64 (wrap64 (y.x.id + 1)), .int .i64 y.x.ent, .int .i64 y.x.date, .int .i64 y.x.kind, .int .i64 y.x.of_, .string y.x.text, .slice none 0 0] 50)) w2.heap.size y.x (wrap64 (y.x.id + 1)) (.slice none 0 0) [] := YBx.new w2 y.x (wrap64 (y.x.id + 1)) 50
      have HY0 := Lib.hid hy0
      clear hy0 hid2 c0 c1 c2 c3 c4 c5 c6
      go_loopw [34] (fun vi wr => ∃ (k : Nat) (v : Value), k ≤ y.x.lines.length ∧ vi = .int .i64 k ∧ Hid (Keeps w2 wr ∧ w2.heap.size + 1 ≤ wr.heap.size ∧ YBx wr w2.heap.size y.x (wrap64 (y.x.id + 1)) v ((y.x.lines.take k).map Ln.neg))) (fun vi _ => y.x.lines.length - (intOf vi).toNat)
      case atStart => exact ⟨0, _, Nat.zero_le _, rfl, Lib.hid ⟨(Keeps.refl w2).alloc _, by simp, HY0.out⟩⟩
      case round =>
        obtain ⟨k, v, hk, rfl, HV⟩ := hrel
        have hzr := HV.out.2.1
        by_cases hlt : k < y.x.lines.length
        · have hr := HYI.out.1.keeps (K2.out.trans HV.out.1)
          have hix := Sl.at hr Try.underlying48 Try.sizeOf56 k hlt
          obtain ⟨l, hl⟩ : ∃ l, y.x.lines[k] = l := ⟨_, rfl⟩
          have d0 := hr.cell Ln.len k hlt 0 (.int .i64 l.acc) (by rw [hl]; rfl)
          rw [Nat.add_zero] at d0
          have d1 := hr.cell Ln.len k hlt 1 (.int .i64 l.amt) (by rw [hl]; rfl)
          have d2 := hr.cell Ln.len k hlt 2 (.int .i64 l.ptn) (by rw [hl]; rfl)
          have HT : Hid ((y.x.lines.take (k + 1)).map Ln.neg = (y.x.lines.take k).map Ln.neg ++ [l.neg] ∧ ((y.x.lines.take k).map Ln.neg).length = k) := Lib.hid ⟨by rw [take_snoc _ k hlt, hl, List.map_append]; rfl, by rw [List.length_map, List.length_take]; omega⟩
          have c6 := HV.out.2.2.2.1 6 v rfl
          simp only [Nat.zero_add] at c6
          have hbn := World.block_lt_of_cell? _ _ c6
          simp only at hbn
          clear hr hl
          go_wp2_with (at_builtin; ((refine wpList_app_rawR elemLn rfl (.tmp 43) (.tmp 45) rfl v _ _ rfl (w2.heap.size + 1) (HV.out.2.2.1.alloc (.cells #[.int .i64 l.acc, .int .i64 (wrap64 (-l.amt)), .int .i64 l.ptn] 56)) (by simp; omega) [.int .i64 l.acc, .int .i64 (wrap64 (-l.amt)), .int .i64 l.ptn] (wr.heap.size + 1) 1 rfl (by simp) rfl (by intro u hu; simp at hu; rcases hu with rfl | rfl | rfl <;> rfl) (by rw [HT.out.2]; omega) (by rw [HT.out.2]; omega) ?_)); intro v' w' ho hg hat; have hB : Below (w2.heap.size + 1) wr w' := Below.grown (((Below.refl _ wr).alloc hzr _).alloc (by simp; omega) _) hg (by simp; omega) (fun j hj => (HV.out.2.2.1.lt j hj).1); have cN := (hB.cell (p := ⟨w2.heap.size, 6, none⟩) (by simp)).trans c6; have fN := (hB.frozen (p := ⟨w2.heap.size, 6, none⟩) (by simp)).trans (by have := (HV.out.2.2.2.2 6 (by omega)).2; simpa using this); have HST := Lib.hid (YBx.store (l := l.neg) HV.out.2.2 hB (by simpa [Ln.neg, Ln.cells, wr64_eq] using ho)); obtain ⟨aoV, capV, bV, eV, _⟩ := Sl.own ho; subst eV; have HBB := Lib.hid hB; have hzw := hB.size; clear hB ho hg hat)
          go_roundw
          case rel => exact ⟨k + 1, _, by omega, by go_num, Lib.hid ⟨Keeps.setCell (p := ⟨w2.heap.size, 6, none⟩) (show Keeps w2 _ from Below.trans HV.out.1 (HBB.out.mono (by omega))) (Nat.le_refl _) _, by simp; omega, by have h := HST.out; rw [HT.out.2] at h; rw [HT.out.1]; exact h⟩⟩
          case measure => simp [intOf]; omega
        · obtain rfl : k = y.x.lines.length := by omega
          obtain ⟨hkv, _, hyb⟩ := HV.out
          rw [List.take_length] at hyb
          have HYB := Lib.hid hyb
          have HKV := Lib.hid hkv
          have hrgv := (HBX2.out _ hkv).1
          have hbb := World.block_lt_of_cell? wr _ (HBX2.out _ hkv).2.2.1
          simp only at hbb
          clear hkv hyb HV
          go_upto_region 13 with (first | (refine wpList_books rfl (.tmp 3) rfl w.heap.size bv hbl rfl hrgv ?_) | (refine wpList_mid rfl 36 (.tmp 10) (.tmp 49) rfl wr.heap.size 27 bv hbl rfl rfl (there_newP wr 36 (bkC (.slice none 0 0) (.slice none 0 0))) booksSize HB.out.one ?_; intro w5 hw5))
          obtain ⟨aoE, capE, bE, oE, heE, hjE⟩ := HB.out.ents
          have hk5 : Keeps wr w5 := by rw [← hw5]; exact keeps_setCellsP (Nat.le_refl _) _ _ _ ((Keeps.refl wr).alloc _)
          have HK5 := Lib.hid hk5
          have hth5 : (wr.alloc (.cells (bkC (.slice none 0 0) (.slice none 0 0)).toArray 36)).there wr.heap.size 0 bv.length := by rw [hbl]; exact there_newP wr 36 (bkC (.slice none 0 0) (.slice none 0 0))
          have hr5 : w5.rangeAt wr.heap.size 0 bv := by rw [← hw5]; exact World.rangeAt_setCells_same _ _ _ _ hth5
          have C5 : Hid (w5.cell? ⟨wr.heap.size, 21, none⟩ = some (.slice aoE es.length capE)) := Lib.hid (by have := hr5 21 _ heE; rwa [Nat.zero_add] at this)
          have F5 : Hid (w5.frozen? ⟨wr.heap.size, 21, none⟩ = false) := Lib.hid (by rw [← hw5]; have := (there_set (vs := bv) (B := wr.heap.size) (p := 0) hth5 21 (by omega)).2; rwa [Nat.zero_add] at this)
          have HR5 := Lib.hid hr5
          have HJ5 : Hid (Sl w5 7 aoE es.length capE bE oE (es.flatMap JV.cells)) := Lib.hid (hjE.row.keeps (K2.out.trans (HKV.out.trans hk5)))
          have HO1 := Lib.hid (ones_jv es)
          have hlE := Sl.le hjE.row
          have hcE := Sl.cap hjE.row
          have hv1 : v.oneCell' = true := by
            obtain ⟨_, _, _, e, _⟩ := Sl.own HYB.out.1
            rw [e]; rfl
          have HO2 : Hid (∀ u ∈ ([.int .i64 y.x.id, .int .i64 y.x.ent, .int .i64 y.x.date, .int .i64 y.x.kind, .int .i64 y.x.of_, .string y.x.text, .slice y.a y.x.lines.length y.c, .int .i64 (wrap64 (y.x.id + 1)), .int .i64 y.x.ent, .int .i64 y.x.date, .int .i64 y.x.kind, .int .i64 y.x.of_, .string y.x.text, v] : List Value), u.oneCell' = true) := Lib.hid (by
            intro u hu
            simp only [List.mem_cons, List.not_mem_nil, or_false] at hu
            rcases hu with rfl | rfl | rfl | rfl | rfl | rfl | rfl | rfl | rfl | rfl | rfl | rfl | rfl | rfl <;> first | rfl | exact hv1)
          have HS5 : Hid (∀ W, Keeps wr W → W.cell? ⟨w.heap.size, 21, none⟩ = some (.slice aoE es.length capE) ∧ W.cell? ⟨w.heap.size + 1, 0, none⟩ = some (.int .i64 y.x.id) ∧ W.cell? ⟨w.heap.size + 1, 1, none⟩ = some (.int .i64 y.x.ent) ∧ W.cell? ⟨w.heap.size + 1, 2, none⟩ = some (.int .i64 y.x.date) ∧ W.cell? ⟨w.heap.size + 1, 3, none⟩ = some (.int .i64 y.x.kind) ∧ W.cell? ⟨w.heap.size + 1, 4, none⟩ = some (.int .i64 y.x.of_) ∧ W.cell? ⟨w.heap.size + 1, 5, none⟩ = some (.string y.x.text) ∧ W.cell? ⟨w.heap.size + 1, 6, none⟩ = some (.slice y.a y.x.lines.length y.c) ∧ W.cell? ⟨w2.heap.size, 0, none⟩ = some (.int .i64 (wrap64 (y.x.id + 1))) ∧ W.cell? ⟨w2.heap.size, 1, none⟩ = some (.int .i64 y.x.ent) ∧ W.cell? ⟨w2.heap.size, 2, none⟩ = some (.int .i64 y.x.date) ∧ W.cell? ⟨w2.heap.size, 3, none⟩ = some (.int .i64 y.x.kind) ∧ W.cell? ⟨w2.heap.size, 4, none⟩ = some (.int .i64 y.x.of_) ∧ W.cell? ⟨w2.heap.size, 5, none⟩ = some (.string y.x.text) ∧ W.cell? ⟨w2.heap.size, 6, none⟩ = some (v)) := Lib.hid (fun W hW => by
            obtain ⟨hb1, ⟨c0, c1, c2, c3, c4, c5, c6⟩, _⟩ := HBX2.out W (HKV.out.trans hW)
            have hy : ∀ j u, (entC y.x (wrap64 (y.x.id + 1)) v)[j]? = some u → W.cell? ⟨w2.heap.size, j, none⟩ = some u := fun j u hu => by have := hW.cell (HYB.out.2.1 j u hu); rwa [Nat.zero_add] at this
            have h21 := hb1 21 _ heE
            rw [Nat.zero_add] at h21
            exact ⟨h21, c0, c1, c2, c3, c4, c5, c6, hy 0 _ rfl, hy 1 _ rfl, hy 2 _ rfl, hy 3 _ rfl, hy 4 _ rfl, hy 5 _ rfl, hy 6 _ rfl⟩)
          have HSS : Hid (∀ W u, Keeps w5 W → (W.setCell ⟨wr.heap.size, 21, none⟩ u).cell? ⟨w.heap.size, 21, none⟩ = some (.slice aoE es.length capE) ∧ (W.setCell ⟨wr.heap.size, 21, none⟩ u).cell? ⟨w.heap.size + 1, 0, none⟩ = some (.int .i64 y.x.id) ∧ (W.setCell ⟨wr.heap.size, 21, none⟩ u).cell? ⟨w.heap.size + 1, 1, none⟩ = some (.int .i64 y.x.ent) ∧ (W.setCell ⟨wr.heap.size, 21, none⟩ u).cell? ⟨w.heap.size + 1, 2, none⟩ = some (.int .i64 y.x.date) ∧ (W.setCell ⟨wr.heap.size, 21, none⟩ u).cell? ⟨w.heap.size + 1, 3, none⟩ = some (.int .i64 y.x.kind) ∧ (W.setCell ⟨wr.heap.size, 21, none⟩ u).cell? ⟨w.heap.size + 1, 4, none⟩ = some (.int .i64 y.x.of_) ∧ (W.setCell ⟨wr.heap.size, 21, none⟩ u).cell? ⟨w.heap.size + 1, 5, none⟩ = some (.string y.x.text) ∧ (W.setCell ⟨wr.heap.size, 21, none⟩ u).cell? ⟨w.heap.size + 1, 6, none⟩ = some (.slice y.a y.x.lines.length y.c) ∧ (W.setCell ⟨wr.heap.size, 21, none⟩ u).cell? ⟨w2.heap.size, 0, none⟩ = some (.int .i64 (wrap64 (y.x.id + 1))) ∧ (W.setCell ⟨wr.heap.size, 21, none⟩ u).cell? ⟨w2.heap.size, 1, none⟩ = some (.int .i64 y.x.ent) ∧ (W.setCell ⟨wr.heap.size, 21, none⟩ u).cell? ⟨w2.heap.size, 2, none⟩ = some (.int .i64 y.x.date) ∧ (W.setCell ⟨wr.heap.size, 21, none⟩ u).cell? ⟨w2.heap.size, 3, none⟩ = some (.int .i64 y.x.kind) ∧ (W.setCell ⟨wr.heap.size, 21, none⟩ u).cell? ⟨w2.heap.size, 4, none⟩ = some (.int .i64 y.x.of_) ∧ (W.setCell ⟨wr.heap.size, 21, none⟩ u).cell? ⟨w2.heap.size, 5, none⟩ = some (.string y.x.text) ∧ (W.setCell ⟨wr.heap.size, 21, none⟩ u).cell? ⟨w2.heap.size, 6, none⟩ = some (v)) := Lib.hid (fun W u hW => HS5.out _ ((HK5.out.trans hW).setCell (p := ⟨wr.heap.size, 21, none⟩) (Nat.le_refl _) u))
          clear hk5 hth5 hr5 hjE hrgv hw5
          go_region_held3 (fun w' => w'.cell? ⟨w.heap.size, 21, none⟩ = some (.slice aoE es.length capE) ∧ w'.cell? ⟨w.heap.size + 1, 0, none⟩ = some (.int .i64 y.x.id) ∧ w'.cell? ⟨w.heap.size + 1, 1, none⟩ = some (.int .i64 y.x.ent) ∧ w'.cell? ⟨w.heap.size + 1, 2, none⟩ = some (.int .i64 y.x.date) ∧ w'.cell? ⟨w.heap.size + 1, 3, none⟩ = some (.int .i64 y.x.kind) ∧ w'.cell? ⟨w.heap.size + 1, 4, none⟩ = some (.int .i64 y.x.of_) ∧ w'.cell? ⟨w.heap.size + 1, 5, none⟩ = some (.string y.x.text) ∧ w'.cell? ⟨w.heap.size + 1, 6, none⟩ = some (.slice y.a y.x.lines.length y.c) ∧ w'.cell? ⟨w2.heap.size, 0, none⟩ = some (.int .i64 (wrap64 (y.x.id + 1))) ∧ w'.cell? ⟨w2.heap.size, 1, none⟩ = some (.int .i64 y.x.ent) ∧ w'.cell? ⟨w2.heap.size, 2, none⟩ = some (.int .i64 y.x.date) ∧ w'.cell? ⟨w2.heap.size, 3, none⟩ = some (.int .i64 y.x.kind) ∧ w'.cell? ⟨w2.heap.size, 4, none⟩ = some (.int .i64 y.x.of_) ∧ w'.cell? ⟨w2.heap.size, 5, none⟩ = some (.string y.x.text) ∧ w'.cell? ⟨w2.heap.size, 6, none⟩ = some (v))
            (first | exact HSS.out _ _ hk2 | exact HS5.out _ (HK5.out.trans hk2) | exact HS5.out _ (HK5.out.trans hk1) | exact HS5.out _ (HK5.out.trans (hk1.alloc _)) | exact HS5.out _ (HK5.out.trans (Keeps.refl w5).drew) | exact HS5.out _ (HK5.out.trans ((Keeps.refl w5).alloc _).drew) | exact HS5.out _ (HK5.out.trans (((Keeps.refl w5).alloc _).alloc _).drew))
            (first | (guard_hyp hown1 : _; refine step_all_raw elemJV rfl (.tmp 53) (.tmp 56) rfl v1 es.length _ (by rfl) w5.heap.size (by first | exact hown1 | exact hown1.alloc _) (by first | omega | (simp; omega)) _ 2 2 _ 0 [.int .i64 y.x.id, .int .i64 y.x.ent, .int .i64 y.x.date, .int .i64 y.x.kind, .int .i64 y.x.of_, .string y.x.text, .slice y.a y.x.lines.length y.c, .int .i64 (wrap64 (y.x.id + 1)), .int .i64 y.x.ent, .int .i64 y.x.date, .int .i64 y.x.kind, .int .i64 y.x.of_, .string y.x.text, v] (by rfl) (by exact Sl.two rfl (fun j u hj => by first | exact cell_newx (by simp) hj | (exact hgrow1.cell (cell_newx (by simp) hj) (by simp [Act.eval, Value.ownBlock])) | (exact hgrow1.cell (Keeps.cell ((Keeps.refl _).alloc _) (cell_newx (by simp) hj)) (by simp [Act.eval, Value.ownBlock])))) HO2.out (by omega) (by omega) ?_; intro v2 w2' hown2 hgrow2 hat2; have hk2 : Keeps w5 w2' := (by first | exact Below.grown hk1 hgrow2 hk1.size (fun j hj => (hown1.lt j hj).1) | exact Below.grown (Keeps.alloc hk1 _) hgrow2 (by simp; omega) (fun j hj => (hown1.lt j hj).1)); have cN := hk2.cell C5.out; have fN := hk2.frz C5.out F5.out; obtain ⟨aoM, capM, bM, eM, hsM⟩ := Sl.own hown2; subst eM) | (refine step_all_raw elemJV rfl (.tmp 50) (.tmp 52) rfl _ 0 [] (by rfl) w5.heap.size (by first | exact own_emptyx (by simp) (by simp) | exact (own_emptyx (by simp) (by simp)).alloc _) (by first | (simp; done) | (simp; omega)) aoE es.length capE bE oE (es.flatMap JV.cells) (by rfl) (by first | exact HJ5.out.keeps ((Keeps.refl w5).alloc _).drew | exact HJ5.out.keeps (((Keeps.refl w5).alloc _).alloc _).drew) HO1.out (by omega) (by omega) ?_; intro v1 w1' hown1 hgrow1 hat1; rw [Nat.zero_add, List.nil_append] at hown1; have hk1 : Keeps w5 w1' := (by first | exact Below.grown ((Keeps.refl w5).alloc _).drew hgrow1 (by first | (simp; done) | (simp; omega)) (fun j hj => by simp [Act.eval, Value.ownBlock] at hj; omega) | exact Below.grown (((Keeps.refl w5).alloc _).alloc _).drew hgrow1 (by first | (simp; done) | (simp; omega)) (fun j hj => by simp [Act.eval, Value.ownBlock] at hj; omega)); have hz1 := hk1.size))
          all_goals
            have hz5 := World.block_lt_of_cell? w5 _ C5.out
            simp only at hz5
            have hkf : Keeps wr (w2'.setCell ⟨wr.heap.size, 21, none⟩ (.slice aoM (es.length + 2) capM)) := (HK5.out.trans hk2).setCell (p := ⟨wr.heap.size, 21, none⟩) (Nat.le_refl _) _
            have HRM := Lib.hid (range_set (range_keeps HR5.out hk2) (i := 21) (by omega) (.slice aoM (es.length + 2) capM))
            have hownF := own_otherP hown2 (p := ⟨wr.heap.size, 21, none⟩) (by simpa using hz5) (.slice aoM (es.length + 2) capM)
            obtain ⟨aoF, capF, bF, eF, hsF⟩ := Sl.own hownF
            obtain ⟨rfl, -, rfl⟩ := Value.slice.inj eF
            obtain ⟨l, hM, hB⟩ := rev_nets bv es ms qe qp qd w _ HB.out (K2.out.trans (HKV.out.trans hkf)) hl8 hn40 y HYI.out hy8 _ w2.heap.size v aoM capM bF hsF (HYB.out.keeps hkf).1
            have HM := Lib.hid hM
            have HBN := Lib.hid hB
            have HKF := Lib.hid (HKV.out.trans hkf)
            obtain ⟨WF, hWF⟩ : ∃ WF, (w2'.setCell ⟨wr.heap.size, 21, none⟩ (.slice aoM (es.length + 2) capM)) = WF := ⟨_, rfl⟩
            simp only [hWF] at *
            clear hkf hownF hsF hM hB hown2 hgrow2 hat2 hsM hk2 cN fN hown1 hgrow1 hat1 hk1
            have hml : (bv.set 21 (.slice aoM (es.length + 2) capM)).length = 27 := by rw [List.length_set]; exact hbl
            obtain ⟨mv, hmv⟩ : ∃ mv, bv.set 21 (.slice aoM (es.length + 2) capM) = mv := ⟨_, rfl⟩
            rw [hmv] at HRM HM hml
            clear hmv
            have HRG : Hid (∀ W, Keeps WF.drew W → W.rangeAt w.heap.size 0 bv) := Lib.hid (fun W hW => (HBX2.out _ (HKF.out.trans ((Keeps.refl WF).drew.trans hW))).1)
            have HRH : Hid (∀ W, Keeps WF.drew W → W.rangeAt wr.heap.size 0 mv) := Lib.hid (fun W hW => range_keeps HRM.out ((Keeps.refl WF).drew.trans hW))
            have HSQ : Hid (∀ W, Keeps WF.drew W → W.cell? ⟨w.heap.size + 1 + 1, 0, none⟩ = some (.int .i64 qe) ∧ W.cell? ⟨w.heap.size + 1 + 1, 1, none⟩ = some (.int .i64 qp) ∧ W.cell? ⟨w.heap.size + 1 + 1, 2, none⟩ = some (.int .i64 qd)) := Lib.hid (fun W hW => (HBX2.out _ (HKF.out.trans ((Keeps.refl WF).drew.trans hW))).2.2)
            
            clear hWF HB HBX2 HRM HR5 HSS HS5 C5 F5 HJ5 HO1 HO2 HYB HK5 HKV HK0 HBX HYI HF
            go_upto_region 14 with (fail)
            refine wp_region_steps (A := ?_) Keeps [some 59, some 60, some 61, some 62, some 63, some 64, some 65, some 66, some 67, some 68, some 69, some 70, some 71, some 72, some 73, some 74, some 75, some 6] [[], [], [1], [], [3], [], [5], [0, 2, 4, 6], [], [], [9], [], [11], [], [13], [8, 10, 12, 14], [7, 15], [16]] 18 (by kernel_rfl) (by kernel_rfl) (by kernel_rfl) (by kernel_rfl) (by kernel_rfl) (by kernel_rfl) Keeps.refl (fun _ _ _ => Keeps.trans) ?_ ?_
            rotate_left
            · intro f; simp only [putL, Act.put, List.setIfInBounds_toArray, List.set_cons_zero, List.set_cons_succ, Nat.zero_add, Nat.reduceAdd]; exact rfl
            refine Steps.pure (v := .agg mv.toArray) Keeps.refl rfl (fun f w' hR hV => ⟨?_, ?_⟩) ?_
            · (rfl)
            · (clear hV; obtain ⟨x0, x1, x2⟩ := HSQ.out _ hR; exact exec_load_mid 36 (.tmp 10) rfl _ wr.heap.size 0 mv rfl (HRH.out _ hR) Try.underlying36 rfl (by rw [hml]; exact booksSize))
            refine Steps.pure (v := ?_) Keeps.refl rfl (fun f w' hR hV => ⟨?_, ?_⟩) ?_
            rotate_left
            · (rfl)
            · (clear hV; obtain ⟨x0, x1, x2⟩ := HSQ.out _ hR; go_simp; all_goals (try with_reducible rfl))
            refine Steps.pure (v := ?_) Keeps.refl rfl (fun f w' hR hV => ⟨?_, ?_⟩) ?_
            rotate_left
            · (rfl)
            · (obtain ⟨h1, _⟩ := hV; replace h1 : f 1 = _ := h1; obtain ⟨x0, x1, x2⟩ := HSQ.out _ hR; go_simp; all_goals (try with_reducible rfl))
            refine Steps.pure (v := ?_) Keeps.refl rfl (fun f w' hR hV => ⟨?_, ?_⟩) ?_
            rotate_left
            · (rfl)
            · (clear hV; obtain ⟨x0, x1, x2⟩ := HSQ.out _ hR; go_simp; all_goals (try with_reducible rfl))
            refine Steps.pure (v := ?_) Keeps.refl rfl (fun f w' hR hV => ⟨?_, ?_⟩) ?_
            rotate_left
            · (rfl)
            · (obtain ⟨h3, _⟩ := hV; replace h3 : f 3 = _ := h3; obtain ⟨x0, x1, x2⟩ := HSQ.out _ hR; go_simp; all_goals (try with_reducible rfl))
            refine Steps.pure (v := ?_) Keeps.refl rfl (fun f w' hR hV => ⟨?_, ?_⟩) ?_
            rotate_left
            · (rfl)
            · (clear hV; obtain ⟨x0, x1, x2⟩ := HSQ.out _ hR; go_simp; all_goals (try with_reducible rfl))
            refine Steps.pure (v := ?_) Keeps.refl rfl (fun f w' hR hV => ⟨?_, ?_⟩) ?_
            rotate_left
            · (rfl)
            · (obtain ⟨h5, _⟩ := hV; replace h5 : f 5 = _ := h5; obtain ⟨x0, x1, x2⟩ := HSQ.out _ hR; go_simp; all_goals (try with_reducible rfl))
            refine Steps.call (BalV l) rfl (fun _ _ _ k h => BalV.keeps k h) (fun f w' hR hV => ⟨?_, ?_⟩) ?_
            · (rfl)
            · (obtain ⟨h0, h2, h4, h6, _⟩ := hV; replace h0 : f 0 = _ := h0; replace h2 : f 2 = _ := h2; replace h4 : f 4 = _ := h4; replace h6 : f 6 = _ := h6; obtain ⟨x0, x1, x2⟩ := HSQ.out _ hR; go_simp; go_at_call 13; refine (HM.out _ ((Keeps.refl WF).drew.trans hR)).mono ?_; rintro e w3 ⟨v3, rfl, hs3, hk3⟩; exact StepPost.of _ rfl hs3 hk3)
            refine Steps.pure (v := .agg bv.toArray) Keeps.refl rfl (fun f w' hR hV => ⟨?_, ?_⟩) ?_
            · (rfl)
            · (clear hV; obtain ⟨x0, x1, x2⟩ := HSQ.out _ hR; exact exec_load_mid 36 (.tmp 3) rfl _ w.heap.size 0 bv rfl (HRG.out _ hR) Try.underlying36 rfl (by rw [hbl]; exact booksSize))
            refine Steps.pure (v := ?_) Keeps.refl rfl (fun f w' hR hV => ⟨?_, ?_⟩) ?_
            rotate_left
            · (rfl)
            · (clear hV; obtain ⟨x0, x1, x2⟩ := HSQ.out _ hR; go_simp; all_goals (try with_reducible rfl))
            refine Steps.pure (v := ?_) Keeps.refl rfl (fun f w' hR hV => ⟨?_, ?_⟩) ?_
            rotate_left
            · (rfl)
            · (obtain ⟨h9, _⟩ := hV; replace h9 : f 9 = _ := h9; obtain ⟨x0, x1, x2⟩ := HSQ.out _ hR; go_simp; all_goals (try with_reducible rfl))
            refine Steps.pure (v := ?_) Keeps.refl rfl (fun f w' hR hV => ⟨?_, ?_⟩) ?_
            rotate_left
            · (rfl)
            · (clear hV; obtain ⟨x0, x1, x2⟩ := HSQ.out _ hR; go_simp; all_goals (try with_reducible rfl))
            refine Steps.pure (v := ?_) Keeps.refl rfl (fun f w' hR hV => ⟨?_, ?_⟩) ?_
            rotate_left
            · (rfl)
            · (obtain ⟨h11, _⟩ := hV; replace h11 : f 11 = _ := h11; obtain ⟨x0, x1, x2⟩ := HSQ.out _ hR; go_simp; all_goals (try with_reducible rfl))
            refine Steps.pure (v := ?_) Keeps.refl rfl (fun f w' hR hV => ⟨?_, ?_⟩) ?_
            rotate_left
            · (rfl)
            · (clear hV; obtain ⟨x0, x1, x2⟩ := HSQ.out _ hR; go_simp; all_goals (try with_reducible rfl))
            refine Steps.pure (v := ?_) Keeps.refl rfl (fun f w' hR hV => ⟨?_, ?_⟩) ?_
            rotate_left
            · (rfl)
            · (obtain ⟨h13, _⟩ := hV; replace h13 : f 13 = _ := h13; obtain ⟨x0, x1, x2⟩ := HSQ.out _ hR; go_simp; all_goals (try with_reducible rfl))
            refine Steps.call (BalV l) rfl (fun _ _ _ k h => BalV.keeps k h) (fun f w' hR hV => ⟨?_, ?_⟩) ?_
            · (rfl)
            · (obtain ⟨h8, h10, h12, h14, _⟩ := hV; replace h8 : f 8 = _ := h8; replace h10 : f 10 = _ := h10; replace h12 : f 12 = _ := h12; replace h14 : f 14 = _ := h14; obtain ⟨x0, x1, x2⟩ := HSQ.out _ hR; go_simp; go_at_call 13; refine (HBN.out _ ((Keeps.refl WF).drew.trans hR)).mono ?_; rintro e w3 ⟨v3, rfl, hs3, hk3⟩; exact StepPost.of _ rfl hs3 hk3)
            refine Steps.call (fun _ v => v = .bool true) rfl (fun _ _ _ _ h => h) (fun f w' hR hV => ⟨?_, ?_⟩) ?_
            · (rfl)
            · (obtain ⟨h7, h15, _⟩ := hV; replace h7 : BalV l w' (f 7) := h7; replace h15 : BalV l w' (f 15) := h15; obtain ⟨x0, x1, x2⟩ := HSQ.out _ hR; go_simp; obtain ⟨ao3, cap3, b3, e3, hs3⟩ := h7; obtain ⟨ao4, cap4, b4, e4, hs4⟩ := h15; simp only [e3, e4]; go_at_call 12; refine (samen_any l _ _ _ _ _ _ _ _ _ hs3 hs4).mono ?_; rintro e w5 ⟨rfl, q5, rfl⟩; exact StepPost.of _ rfl rfl ((Keeps.refl _).drewN _))
            refine Steps.pure (v := ?_) Keeps.refl rfl (fun f w' hR hV => ⟨?_, ?_⟩) ?_
            rotate_left
            · (rfl)
            · (obtain ⟨h16, _⟩ := hV; replace h16 : f 16 = _ := h16; obtain ⟨x0, x1, x2⟩ := HSQ.out _ hR; go_simp; all_goals (try with_reducible rfl))
            all_goals (refine Steps.done [17] (by kernel_rfl) rfl (fun f wq hR hV => ?_); obtain ⟨h17, _⟩ := hV; replace h17 : f 17 = _ := h17; simp only [h17])
            go_wp2_with fail
            go_ret
            exact ⟨rfl, K2.out.trans (HKF.out.trans ((Keeps.refl WF).drew.trans hR))⟩
    · have e8 : decide ((8 : Int) < (y.x.lines.length : Int)) = true := by simp; omega
      clear hf H hl8 hn40
      go_enter Try.func5, Try.ntmps5
      go_wp2_with (first | (go_at_call 10; first | (guard_hyp hk1 : _; refine (pawake_any _).mono ?_; rintro e w3 ⟨rfl, hk3⟩) | (refine (pawake_any _).mono ?_; rintro e w1 ⟨rfl, hk1⟩; have K1 := Lib.hid (HK0.out.trans hk1); have hrg1 := (HBX.out _ hk1).1; have y6 := (HBX.out _ hk1).2.1.c6)) | (refine wpList_booksG (.tmp 3) rfl rfl w.heap.size bv hbl rfl hrg1 ?_) | (go_at_call 11; refine (HF.out _ K1.out).mono ?_; rintro e w2 ⟨rfl, hk2⟩; have K2 := Lib.hid (K1.out.trans hk2); replace y6 := hk2.cell y6))
      go_ret
      exact ⟨rfl, K2.out.trans hk3⟩
end Go.Proofs.Ytfddhmhagijodaa
