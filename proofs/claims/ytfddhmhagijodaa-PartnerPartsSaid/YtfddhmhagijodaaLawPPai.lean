/- The law on Pairs: the walk. -/
import Derived.Test.YtfddhmhagijodaaPrW
import Derived.Test.YtfddhmhagijodaaRPrW
import Derived.Test.YtfddhmhagijodaaLawPNet
namespace Go.Proofs.Ytfddhmhagijodaa
open Go.RowKit
set_option linter.unusedSimpArgs false
set_option linter.unusedVariables false

/-- The value reads as a list of pairs. -/
def PrV (l : List Pr) (W : World) (v : Value) : Prop := ∃ ao cap b, v = .slice ao l.length cap ∧ Recs W 2 Pr.cells ao l cap b 0
theorem PrV.keeps {l : List Pr} {w1 w2 : World} {v : Value} (k : Keeps w1 w2) (h : PrV l w1 v) : PrV l w2 v := by obtain ⟨ao, cap, b, e, hs⟩ := h; exact ⟨ao, cap, b, e, hs.keeps k⟩
theorem PrV.own {l : List Pr} {W : World} {base : Nat} {v : Value} (h : W.ownsRow base 66 2 v l.length (l.flatMap Pr.cells)) : PrV l W v := by
  obtain ⟨ao, cap, b, rfl, hs⟩ := Sl.own h
  exact ⟨ao, cap, b, rfl, hs⟩
set_option maxRecDepth 100000 in
set_option maxHeartbeats 4000000 in
theorem lawPai_any (bv : List Value) (es : List JV) (ms : List MV) (date : Int) (w : World) (H : Bks w bv es ms) :
    Calls Try.prog 8 #[.agg bv.toArray, .int .i64 date] w fun e w' => e = .returned (.bool true) ∧ Keeps w w' := by
  have HB := Lib.hid H
  have hbl := H.len
  have hrg := box_range w bv 36
  have hk0 : Keeps w (w.alloc (.cells bv.toArray 36)) := (Keeps.refl w).alloc _
  have HK0 := Lib.hid hk0
  clear hk0
  cases hf : fewB es ms with
  | false =>
    have HF : Hid (∀ W, Keeps w W → Calls Try.prog 11 #[.agg bv.toArray] W fun e w' => e = .returned (.bool false) ∧ Keeps W w') := Lib.hid (fun W hW => by have := few_any bv es ms W (HB.out.keeps hW); rw [hf] at this; exact this)
    clear hf H
    go_enter Try.func8, Try.ntmps8
    go_wp2_with (first | (go_at_call 10; first | (guard_hyp hk1 : _; refine (pawake_any _).mono ?_; rintro e w3 ⟨rfl, hk3⟩) | (refine (pawake_any _).mono ?_; rintro e w1 ⟨rfl, hk1⟩; have hrg1 := range_keeps hrg hk1)) | (refine wpList_booksG (.tmp 2) rfl rfl w.heap.size bv hbl rfl hrg1 ?_; clear hrg1) | (go_at_call 11; refine (HF.out _ (HK0.out.trans hk1)).mono ?_; rintro e w2 ⟨rfl, hk2⟩))
    go_ret
    exact ⟨rfl, (HK0.out.trans hk1).trans (hk2.trans hk3)⟩
  | true =>
    obtain ⟨hl8, hn40, _, _⟩ := fewB_spec hf
    have HF : Hid (∀ W, Keeps w W → Calls Try.prog 11 #[.agg bv.toArray] W fun e w' => e = .returned (.bool true) ∧ Keeps W w') := Lib.hid (fun W hW => by have := few_any bv es ms W (HB.out.keeps hW); rw [hf] at this; exact this)
    have hra := rpairs_are date es
    have hrl := pairsR_len (((rsort (rall 0 es)).filter (keepQ date)).map RP.pr)
    have hll : (((rsort (rall 0 es)).filter (keepQ date)).map RP.pr).length ≤ 320 := by
      rw [List.length_map]
      have h1 := List.length_filter_le (keepQ date) (rsort (rall 0 es))
      rw [rsort_len] at h1
      have h2 := rall_len 8 es 0 hl8
      omega
    obtain ⟨l, hl⟩ : ∃ l, pairsR (((rsort (rall 0 es)).filter (keepQ date)).map RP.pr) = l := ⟨_, rfl⟩
    rw [hl] at hra hrl
    have hl320 : l.length ≤ 320 := by omega
    have HP : Hid (∀ W, Keeps w W → Calls Try.prog 24 #[.agg bv.toArray, .int .i64 date] W fun e w' => ∃ v, e = .returned v ∧ PrV l w' v ∧ Keeps W w') := Lib.hid (fun W hW => by
      refine (pairs_any bv es ms date W (HB.out.keeps hW) (by omega) hl8).mono ?_
      rintro e w' ⟨v, l2, rfl, ha, ho, hk⟩
      obtain rfl := hra.unique ha
      exact ⟨v, rfl, PrV.own ho, hk⟩)
    have HR : Hid (∀ W, Keeps w W → Calls Try.prog 25 #[.agg bv.toArray, .int .i64 date] W fun e w' => ∃ v, e = .returned v ∧ PrV l w' v ∧ Keeps W w') := Lib.hid (fun W hW => by
      refine (rpairs_any bv es ms date W (HB.out.keeps hW) hn40 hl8).mono ?_
      rintro e w' ⟨v, rfl, ho, hk⟩
      rw [hl] at ho
      exact ⟨v, rfl, PrV.own ho, hk⟩)
    clear hf H hl8 hn40 hl hra hrl hll
    go_enter Try.func8, Try.ntmps8
    go_wp2_with (first | (go_at_call 10; refine (pawake_any _).mono ?_; rintro e w1 ⟨rfl, hk1⟩; have hrg1 := range_keeps hrg hk1; have K1 := Lib.hid (HK0.out.trans hk1)) | (refine wpList_booksG (.tmp 2) rfl rfl w.heap.size bv hbl rfl hrg1 ?_) | (go_at_call 11; refine (HF.out _ K1.out).mono ?_; rintro e w2 ⟨rfl, hk2⟩; have hrgc := range_keeps hrg1 hk2; have K2 := Lib.hid (K1.out.trans hk2)))
    have HRG : Hid (∀ W, Keeps w2.drew W → W.rangeAt w.heap.size 0 bv) := Lib.hid (fun W hW => range_keeps (show w2.drew.rangeAt w.heap.size 0 bv from hrgc) hW)
    clear hrg1 hrg hrgc
    refine wp_region_steps (A := ?_) Keeps [some 16, some 17, some 18, some 19, some 20, some 21, some 5, some 6] [[], [], [0, 1], [], [], [3, 4], [2], [5]] 8 (by kernel_rfl) (by kernel_rfl) (by kernel_rfl) (by kernel_rfl) (by kernel_rfl) (by kernel_rfl) Keeps.refl (fun _ _ _ => Keeps.trans) ?_ ?_
    rotate_left
    · intro f; simp only [putL, Act.put, List.setIfInBounds_toArray, List.set_cons_zero, List.set_cons_succ, Nat.zero_add, Nat.reduceAdd]; exact rfl
    refine Steps.pure (v := .agg bv.toArray) Keeps.refl rfl (fun f w' hR hV => ⟨?_, ?_⟩) ?_
    · (rfl)
    · (clear hV; exact exec_load_mid 36 (.tmp 2) rfl _ w.heap.size 0 bv rfl (HRG.out _ hR) Try.underlying36 rfl (by rw [hbl]; exact booksSize))
    refine Steps.pure (v := ?_) Keeps.refl rfl (fun f w' hR hV => ⟨?_, ?_⟩) ?_
    rotate_left
    · (rfl)
    · (clear hV; go_simp; all_goals (try with_reducible rfl))
    refine Steps.call (PrV l) rfl (fun _ _ _ k h => PrV.keeps k h) (fun f w' hR hV => ⟨?_, ?_⟩) ?_
    · (rfl)
    · (obtain ⟨h0, h1, _⟩ := hV; replace h0 : f 0 = _ := h0; replace h1 : f 1 = _ := h1; go_simp; go_at_call 24; refine (HP.out _ (K2.out.drew.trans hR)).mono ?_; rintro e w3 ⟨v3, rfl, hs3, hk3⟩; exact StepPost.of _ rfl hs3 hk3)
    refine Steps.pure (v := .agg bv.toArray) Keeps.refl rfl (fun f w' hR hV => ⟨?_, ?_⟩) ?_
    · (rfl)
    · (clear hV; exact exec_load_mid 36 (.tmp 2) rfl _ w.heap.size 0 bv rfl (HRG.out _ hR) Try.underlying36 rfl (by rw [hbl]; exact booksSize))
    refine Steps.pure (v := ?_) Keeps.refl rfl (fun f w' hR hV => ⟨?_, ?_⟩) ?_
    rotate_left
    · (rfl)
    · (clear hV; go_simp; all_goals (try with_reducible rfl))
    refine Steps.call (PrV l) rfl (fun _ _ _ k h => PrV.keeps k h) (fun f w' hR hV => ⟨?_, ?_⟩) ?_
    · (rfl)
    · (obtain ⟨h3, h4, _⟩ := hV; replace h3 : f 3 = _ := h3; replace h4 : f 4 = _ := h4; go_simp; go_at_call 25; refine (HR.out _ (K2.out.drew.trans hR)).mono ?_; rintro e w3 ⟨v3, rfl, hs3, hk3⟩; exact StepPost.of _ rfl hs3 hk3)
    refine Steps.call (PrV l) rfl (fun _ _ _ k h => PrV.keeps k h) (fun f w' hR hV => ⟨?_, ?_⟩) ?_
    · (rfl)
    · (obtain ⟨h2, _⟩ := hV; replace h2 : PrV l w' (f 2) := h2; go_simp; exact StepPost.of _ rfl h2 (Keeps.refl _))
    refine Steps.call (PrV l) rfl (fun _ _ _ k h => PrV.keeps k h) (fun f w' hR hV => ⟨?_, ?_⟩) ?_
    · (rfl)
    · (obtain ⟨h5, _⟩ := hV; replace h5 : PrV l w' (f 5) := h5; go_simp; exact StepPost.of _ rfl h5 (Keeps.refl _))
    all_goals (refine Steps.done [6, 7] (by kernel_rfl) rfl (fun f wq hR hV => ?_); obtain ⟨h6, h7, _⟩ := hV; replace h6 : PrV l wq (f 6) := h6; replace h7 : PrV l wq (f 7) := h7)
    obtain ⟨ao3, cap3, b3, e3, hs3⟩ := h6
    obtain ⟨ao4, cap4, b4, e4, hs4⟩ := h7
    simp only [e3, e4]
    have HS3 := Lib.hid hs3
    have HS4 := Lib.hid hs4
    have hcap3 := hs3.cap
    have hle3 := hs3.le
    have hcap4 := hs4.cap
    have hle4 := hs4.le
    have HKQ := Lib.hid (K2.out.trans ((Keeps.refl w2).drew.trans hR))
    have hne : ((l.length : Int) != (l.length : Int)) = false := by simp
    clear hs3 hs4 hR e3 e4 HRG HP HR
    go_wp2_with fail
    go_loopw [29] (fun vi wr => ∃ k : Nat, k ≤ l.length ∧ vi = .int .i64 k ∧ Hid (Keeps wq wr)) (fun vi _ => l.length - (intOf vi).toNat)
    case atStart => exact ⟨0, Nat.zero_le _, rfl, Lib.hid (Keeps.refl wq)⟩
    case round =>
      obtain ⟨k, hk, rfl, HW⟩ := hrel
      by_cases hlt : k < l.length
      · have hr3 : Recs wr 2 Pr.cells ao3 l cap3 b3 0 := HS3.out.keeps HW.out
        have hr4 : Recs wr 2 Pr.cells ao4 l cap4 b4 0 := HS4.out.keeps HW.out
        have hix3 := Sl.at hr3 Try.underlying64 Try.sizeOf66 k hlt
        have hix4 := Sl.at hr4 Try.underlying64 Try.sizeOf66 k hlt
        obtain ⟨x, hx⟩ : ∃ x, l[k] = x := ⟨_, rfl⟩
        have c0 := hr3.cell Pr.len k hlt 0 (.int .i64 x.a) (by rw [hx]; rfl)
        have c1 := hr3.cell Pr.len k hlt 1 (.int .i64 x.b) (by rw [hx]; rfl)
        have d0 := hr4.cell Pr.len k hlt 0 (.int .i64 x.a) (by rw [hx]; rfl)
        have d1 := hr4.cell Pr.len k hlt 1 (.int .i64 x.b) (by rw [hx]; rfl)
        simp only [Nat.zero_add, Nat.add_zero] at c0 c1 d0 d1 hix3 hix4
        have hnq : ∀ w, (binOp .neq 66 (.agg #[.int .i64 x.a, .int .i64 x.b]) (.agg #[.int .i64 x.a, .int .i64 x.b])).run Try.prog w = .ok (.bool false) w := fun w => by rw [neqPr, decide_eq_false (fun h => h rfl)]
        clear hr3 hr4 hx
        go_wp2_with fail
        go_quiet (fail)
        go_wp2_with fail
        go_roundw
        case rel => exact ⟨k + 1, by omega, by go_num, Lib.hid (HW.out.drewN _)⟩
        case measure => simp [intOf]; omega
      · obtain rfl : k = l.length := by omega
        go_wp2_with fail
        go_ret
        exact ⟨rfl, HKQ.out.trans HW.out⟩
end Go.Proofs.Ytfddhmhagijodaa
