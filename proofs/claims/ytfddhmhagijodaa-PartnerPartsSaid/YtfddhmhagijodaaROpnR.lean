/- The reference's Open: the walk. -/
import Derived.Test.YtfddhmhagijodaaRLinR
import Derived.Test.YtfddhmhagijodaaRMatR
import Derived.Test.YtfddhmhagijodaaOpnW
import Derived.Test.YtfddhmhagijodaaPFindL
namespace Go.Proofs.Ytfddhmhagijodaa
open Go.RowKit
set_option linter.unusedSimpArgs false
set_option linter.unusedVariables false

set_option maxRecDepth 100000 in
set_option maxHeartbeats 4000000 in
theorem ropen_any (bv : List Value) (es : List JV) (ms : List MV) (en pt date : Int) (w : World) (H : Bks w bv es ms) (hn : es.length ≤ 40) (hm : ∀ e ∈ es, e.x.lines.length ≤ 8) :
    Calls Try.prog 20 #[.agg bv.toArray, .int .i64 en, .int .i64 pt, .int .i64 date] w
      fun e w' => ∃ v, e = .returned v ∧ w'.ownsRow w.heap.size 59 2 v (openP date en pt (es.map JV.x) ms).length ((openP date en pt (es.map JV.x) ms).flatMap Rf.cells) ∧ Keeps w w' := by
  have hbl := H.len
  have HP := Lib.hid (fun W hW => rlines_any bv es ms en pt date W (H.keeps hW) hn hm)
  have HMR := Lib.hid (fun r W hW => rmatched_any bv es ms r W (H.keeps hW))
  have hlen := btw_len date en pt (es.map JV.x) (fun x hx => by obtain ⟨e, he, rfl⟩ := List.mem_map.1 hx; exact hm e he)
  have hlen2 : (linesP date en pt (es.map JV.x)).length ≤ 320 := by rw [linesP, List.length_map]; rw [List.length_map] at hlen; omega
  obtain ⟨P, hP⟩ : ∃ P, linesP date en pt (es.map JV.x) = P := ⟨_, rfl⟩
  have HB : Hid (openP date en pt (es.map JV.x) ms = P.filter (fun r => !mref ms r)) := Lib.hid (by rw [openP, hP])
  rw [hP] at HP hlen2
  clear hP H hm hlen
  have hrg := box_range w bv 36
  have HRG0 := Lib.hid hrg
  have hk0 : Keeps w (w.alloc (.cells bv.toArray 36)) := (Keeps.refl w).alloc _
  go_enter Try.func20, Try.ntmps20
  go_wp2_with (first | (refine wpList_books rfl (.tmp 4) rfl w.heap.size bv hbl rfl hrg ?_; clear hrg) | (go_at_call 18; refine (HP.out _ hk0).mono ?_; rintro e w1 ⟨v1, rfl, ho1, hk1⟩; obtain ⟨ao1, cap1, b1, e1, hs1⟩ := Sl.own ho1; subst e1; have HS1 := Lib.hid hs1; have HK1 := Lib.hid (hk0.trans hk1); have HRG1 := Lib.hid (range_keeps HRG0.out hk1); clear hk1 hk0 ho1))
  have hcap1 := HS1.out.cap
  have hle1 := HS1.out.le
  clear HRG0 HP
  go_loopw [9, 11] (fun vo vi wr => ∃ k m : Nat, k ≤ P.length ∧ m ≤ k ∧ vi = .int .i64 k ∧ Hid (((P.take k).filter (fun r => !mref ms r)).length = m ∧ Keeps w1 wr ∧ wr.ownsRow w1.heap.size 59 2 vo m (((P.take k).filter (fun r => !mref ms r)).flatMap Rf.cells))) (fun _ vi _ => P.length - (intOf vi).toNat)
  case atStart => exact ⟨0, 0, Nat.zero_le _, Nat.le_refl _, rfl, Lib.hid ⟨rfl, Keeps.refl w1, World.ownsRow_nil _ _ _ _⟩⟩
  case round =>
    obtain ⟨k, m, hk, hmk, rfl, HW⟩ := hrel
    by_cases hlt : k < P.length
    · have hr : Recs wr 2 Rf.cells ao1 P cap1 b1 0 := HS1.out.keeps HW.out.2.1
      have hix := Sl.at hr Try.underlying45 Try.sizeOf59 k hlt
      obtain ⟨r, hpk⟩ : ∃ r, P[k] = r := ⟨_, rfl⟩
      have c0 := hr.cell Rf.len k hlt 0 (.int .i64 r.e) (by rw [hpk]; rfl)
      have c1 := hr.cell Rf.len k hlt 1 (.int .i64 r.l) (by rw [hpk]; rfl)
      simp only [Nat.zero_add, Nat.add_zero] at c0 c1 hix
      obtain ⟨q, hq⟩ : ∃ q, mref ms r = q := ⟨_, rfl⟩
      have HS : Hid (∀ W, Keeps wr.drew W → W.cell? ⟨b1, k * 2, none⟩ = some (.int .i64 r.e) ∧ W.cell? ⟨b1, k * 2 + 1, none⟩ = some (.int .i64 r.l)) := Lib.hid (fun W h => have h := (Keeps.refl wr).drew.trans h; ⟨h.cell c0, h.cell c1⟩)
      have HRG : Hid (∀ W, Keeps wr.drew W → W.rangeAt w.heap.size 0 bv) := Lib.hid (fun W h => range_keeps HRG1.out (HW.out.2.1.trans ((Keeps.refl wr).drew.trans h)))
      have HMA : Hid (∀ W, Keeps wr.drew W → Calls Try.prog 26 #[.agg bv.toArray, .agg #[.int .i64 r.e, .int .i64 r.l]] W fun e w' => e = .returned (.bool q) ∧ Keeps W w') := Lib.hid (fun W h => by have := HMR.out r W (HK1.out.trans (HW.out.2.1.trans ((Keeps.refl wr).drew.trans h))); rw [hq] at this; exact this)
      have HT : Hid ((P.take (k + 1)).filter (fun r => !mref ms r) = if q then (P.take k).filter (fun r => !mref ms r) else (P.take k).filter (fun r => !mref ms r) ++ [r]) := Lib.hid (by
        rw [take_snoc _ k hlt, hpk, List.filter_append, List.filter_cons, hq]
        cases q <;> simp)
      clear hpk hr hq
      go_wp2_with fail
      refine wp_region_steps (A := ?_) Keeps [some 23, some 24, some 25, some 26, some 27, some 28, some 29] [[], [], [], [1, 2], [3], [0, 4], [5]] 7 (by kernel_rfl) (by kernel_rfl) (by kernel_rfl) (by kernel_rfl) (by kernel_rfl) (by kernel_rfl) Keeps.refl (fun _ _ _ => Keeps.trans) ?_ ?_
      rotate_left
      · intro f; simp only [putL, Act.put, List.setIfInBounds_toArray, List.set_cons_zero, List.set_cons_succ, Nat.zero_add, Nat.reduceAdd]; exact rfl
      refine Steps.pure (v := .agg bv.toArray) Keeps.refl rfl (fun f w' hR hV => ⟨?_, ?_⟩) ?_
      · (rfl)
      · (clear hV; obtain ⟨c0, c1⟩ := HS.out _ hR; exact exec_load_mid 36 (.tmp 4) rfl _ w.heap.size 0 bv rfl (HRG.out _ hR) Try.underlying36 rfl (by rw [hbl]; exact booksSize))
      refine Steps.pure (v := ?_) Keeps.refl rfl (fun f w' hR hV => ⟨?_, ?_⟩) ?_
      rotate_left
      · (rfl)
      · (clear hV; obtain ⟨c0, c1⟩ := HS.out _ hR; go_simp; all_goals (try with_reducible rfl))
      refine Steps.pure (v := ?_) Keeps.refl rfl (fun f w' hR hV => ⟨?_, ?_⟩) ?_
      rotate_left
      · (rfl)
      · (clear hV; obtain ⟨c0, c1⟩ := HS.out _ hR; go_simp; all_goals (try with_reducible rfl))
      refine Steps.pure (v := ?_) Keeps.refl rfl (fun f w' hR hV => ⟨?_, ?_⟩) ?_
      rotate_left
      · (rfl)
      · (obtain ⟨h1, h2, _⟩ := hV; replace h1 : f 1 = _ := h1; replace h2 : f 2 = _ := h2; obtain ⟨c0, c1⟩ := HS.out _ hR; go_simp; all_goals (try with_reducible rfl))
      refine Steps.pure (v := ?_) Keeps.refl rfl (fun f w' hR hV => ⟨?_, ?_⟩) ?_
      rotate_left
      · (rfl)
      · (obtain ⟨h3, _⟩ := hV; replace h3 : f 3 = _ := h3; obtain ⟨c0, c1⟩ := HS.out _ hR; go_simp; all_goals (try with_reducible rfl))
      refine Steps.call (fun _ v => v = .bool q) rfl (fun _ _ _ _ h => h) (fun f w' hR hV => ⟨?_, ?_⟩) ?_
      · (rfl)
      · (obtain ⟨h0, h4, _⟩ := hV; replace h0 : f 0 = _ := h0; replace h4 : f 4 = _ := h4; obtain ⟨c0, c1⟩ := HS.out _ hR; go_simp; go_at_call 26; refine (HMA.out _ hR).mono ?_; rintro e w2 ⟨rfl, hk2⟩; exact StepPost.of _ rfl rfl hk2)
      refine Steps.pure (v := ?_) Keeps.refl rfl (fun f w' hR hV => ⟨?_, ?_⟩) ?_
      rotate_left
      · (rfl)
      · (obtain ⟨h5, _⟩ := hV; replace h5 : f 5 = _ := h5; obtain ⟨c0, c1⟩ := HS.out _ hR; go_simp; all_goals (try with_reducible rfl))
      all_goals (refine Steps.done [6] (by kernel_rfl) rfl (fun f wq hR hV => ?_); obtain ⟨h6, _⟩ := hV; replace h6 : f 6 = _ := h6; simp only [h6])
      have HKD := Lib.hid ((Keeps.refl wr).drew.trans hR)
      have a0 := HKD.out.cell c0
      have a1 := HKD.out.cell c1
      have HZ := Lib.hid (own_keepsP HW.out.2.2 HKD.out)
      have HKW := Lib.hid (HW.out.2.1.trans HKD.out)
      clear c0 c1 hR HS HRG HMA
      cases q with
      | true =>
        rw [if_pos rfl] at HT
        go_wp2_with fail
        go_roundw
        case rel => exact ⟨k + 1, m, by omega, by omega, by go_num, Lib.hid (by rw [HT.out]; exact ⟨HW.out.1, HKW.out, HZ.out⟩)⟩
        case measure => simp [intOf]; omega
      | false =>
        rw [if_neg (by simp)] at HT
        go_wp2_with ((at_builtin; (refine wpList_appx elemRef rfl _ _ rfl w1 _ _ _ rfl w1.heap.size HZ.out HKW.out HKW.out.size [.int .i64 r.e, .int .i64 r.l] _ 1 rfl rfl rfl (Rf.one r) (by omega) (by omega) ?_); intro v3 w3 hown3 hb3 hsz3; have HY : Hid (((P.take (k + 1)).filter (fun r => !mref ms r)).length = m + 1 ∧ Keeps w1 w3 ∧ w3.ownsRow w1.heap.size 59 2 v3 (m + 1) (((P.take (k + 1)).filter (fun r => !mref ms r)).flatMap Rf.cells)) := (Lib.hid ⟨by rw [HT.out, List.length_append, HW.out.1]; rfl, hb3, by rw [HT.out, List.flatMap_append]; exact hown3⟩); clear hown3 hb3 hsz3))
        go_roundw
        case rel => exact ⟨k + 1, m + 1, by omega, by omega, by go_num, HY⟩
        case measure => simp [intOf]; omega
    · obtain rfl : k = P.length := by omega
      have hx := HW.out
      rw [List.take_length] at hx
      go_wp2_with fail
      go_ret
      refine ⟨_, rfl, ?_, HK1.out.trans hx.2.1⟩
      rw [HB.out, hx.1]
      exact own_baseP hx.2.2 HK1.out.size
end Go.Proofs.Ytfddhmhagijodaa
