/- HoldingKeeps: the walk of the law. -/
import Derived.Test.YtmlpdpacefnngaaHolAwake
import Derived.Test.YtmlpdpacefnngaaHolSetW
import Derived.Test.YtmlpdpacefnngaaHolAll
import Derived.Test.YtmlpdpacefnngaaHolKeepP
import Derived.Test.YtmlpdpacefnngaaRG
import Derived.Deep.RegionLaw
import Derived.Deep.CutRange
namespace Go.Proofs.Ytmlpdpacefnngaa
open Go.RowKit
set_option linter.unusedSimpArgs false
set_option linter.unusedVariables false

theorem setH_ok {n : Int} {l : List Hol} {h : Hol} {rl : List Hol} (hr : setH n l h = (rl, 0)) : rl = putH l h ∧ hvalidB n (putH l h) = true ∧ properB n h = true := by
  unfold setH at hr
  split at hr
  · cases hr
  · split at hr
    · cases hr
    · split at hr
      · cases hr
      · split at hr
        · cases hr
        · simp only [Prod.mk.injEq] at hr
          exact ⟨hr.1.symm, by simp_all, by simp_all⟩
theorem setH_er {n : Int} {l : List Hol} {h : Hol} {rl : List Hol} {re : Int} (hr : setH n l h = (rl, re)) (h0 : re ≠ 0) : rl = [] := by
  unfold setH at hr
  split at hr
  · cases hr; rfl
  · split at hr
    · cases hr; rfl
    · split at hr
      · cases hr; rfl
      · split at hr
        · cases hr; rfl
        · simp only [Prod.mk.injEq] at hr
          exact absurd hr.2.symm h0
theorem setH_again {n : Int} {l : List Hol} {h : Hol} (hv : hvalidB n (putH l h) = true) (hp : properB n h = true) : setH n (putH l h) h = (putH l h, 0) := by
  have h1 := putH_again hv
  have h2 := setH_5 (n := n) (l := putH l h) (h := h) hv hp (by rw [h1]; have := hvalidB_len hv; omega) (by rw [h1]; exact hv)
  rw [h2, h1]

/-- A holding's cells. -/
def Cells4 (W : World) (B : Nat) (x : Hol) : Prop := W.cell? ⟨B, 0, none⟩ = some (.int .i64 x.holder) ∧ W.cell? ⟨B, 1, none⟩ = some (.int .i64 x.entity) ∧ W.cell? ⟨B, 2, none⟩ = some (.int .i64 x.date) ∧ W.cell? ⟨B, 3, none⟩ = some (.int .i64 x.share)
theorem Cells4.keeps {W W' : World} {B : Nat} {x : Hol} (h : Cells4 W B x) (k : Keeps W W') : Cells4 W' B x := ⟨k.cell h.1, k.cell h.2.1, k.cell h.2.2.1, k.cell h.2.2.2⟩
set_option maxRecDepth 100000 in
set_option maxHeartbeats 4000000 in
theorem lawHKeep_any (n : Int) (l : List Hol) (x y : Hol) (ao : Option Addr) (cap b o : Nat) (w : World) (H : Hols w ao l cap b o) (hok : ∀ x ∈ l, x.Ok) (hxo : x.Ok) (hyo : y.Ok) :
    Calls Try.prog 7 #[.int .i64 n, .slice ao l.length cap, .agg #[.int .i64 x.holder, .int .i64 x.entity, .int .i64 x.date, .int .i64 x.share, .int .i64 y.holder, .int .i64 y.entity, .int .i64 y.date, .int .i64 y.share]] w fun e w' => e = .returned (.bool true) ∧ Keeps w w' := by
  have HH := Lib.hid H
  have HO := Lib.hid hok
  have HXO := Lib.hid hxo
  have hcap := Sl.cap H
  have hle := Sl.le H
  clear H hok hxo
  by_cases hl : l.length ≤ 30
  · have e1 : decide ((30 : Int) < (l.length : Int)) = false := decide_eq_false (by omega)
    obtain ⟨⟨rl, re⟩, hr⟩ : ∃ r, setH n l x = r := ⟨_, rfl⟩
    have HSET1 : Hid (∀ W ao c b o, Hols W ao l c b o → Calls Try.prog 25 #[.int .i64 n, .slice ao l.length c, .agg #[.int .i64 x.holder, .int .i64 x.entity, .int .i64 x.date, .int .i64 x.share]] W fun e w' => ∃ ao cap b o, e = .returned (.tuple #[.slice ao rl.length cap, .int .i64 re]) ∧ Hols w' ao rl cap b o ∧ Keeps W w') := Lib.hid (fun W ao c b o hh => by
      have := set_any n ao l c b o x W hh (by omega) HO.out HXO.out
      rw [hr] at this
      exact this)
    by_cases h0 : re = 0
    · subst h0
      obtain ⟨hrl, hv, hp⟩ := setH_ok hr
      have hlen := putH_len l x
      rw [← hrl] at hlen
      have hrl30 : rl.length ≤ 31 := by omega
      have HSET2 : Hid (∀ W ao c b o, Hols W ao rl c b o → Calls Try.prog 25 #[.int .i64 n, .slice ao rl.length c, .agg #[.int .i64 x.holder, .int .i64 x.entity, .int .i64 x.date, .int .i64 x.share]] W fun e w' => ∃ ao cap b o, e = .returned (.tuple #[.slice ao rl.length cap, .int .i64 0]) ∧ Hols w' ao rl cap b o ∧ Keeps W w') := Lib.hid (fun W ao c b o hh => by
        have := set_any n ao rl c b o x W hh (by omega) (by rw [hrl]; exact putH_ok HO.out HXO.out) HXO.out
        rw [hrl, setH_again hv hp, ← hrl] at this
        exact this)
      have HAT1 : Hid (∀ W ao c b o, Hols W ao rl c b o → Calls Try.prog 18 #[.slice ao rl.length c, .int .i64 x.holder, .int .i64 x.entity, .int .i64 x.date] W fun e w' => e = .returned (.int .i64 x.share) ∧ Keeps W w') := Lib.hid (fun W ao c b o hh => by
        have := hat_any ao rl c b o x.holder x.entity x.date W hh
        rw [hrl, atH_put hv, ← hrl] at this
        exact this)
      have HVAL : Hid (∀ W ao c b o, Hols W ao rl c b o → Calls Try.prog 16 #[.int .i64 n, .slice ao rl.length c] W fun e w' => e = .returned (.bool true) ∧ Keeps W w') := Lib.hid (fun W ao c b o hh => by
        have := hvalid_any n ao rl c b o W hh (by omega) (by rw [hrl]; exact putH_ok HO.out HXO.out)
        rw [hrl, hv, ← hrl] at this
        exact this)
      have HATO : Hid (¬ (x.holder = y.holder ∧ x.entity = y.entity ∧ x.date ≤ y.date) → atH rl y.holder y.entity y.date = atH l y.holder y.entity y.date) := Lib.hid (fun h => by rw [hrl]; exact atH_other h)
      clear hr hrl hv hp hlen
      go_enter Try.func7, Try.ntmps7
      go_upto_region 9 with (first | (go_at_call 25; (with_reducible refine (HSET2.out _ _ _ _ _ HS6.out).mono ?_); rintro e w7 ⟨ao7, cap7, b7, o7, rfl, hs7, hk7⟩; have HS7 := Lib.hid hs7; have K7 := Lib.hid (K6.out.trans hk7); have HS67 := Lib.hid (HS6.out.keeps hk7); have hle7 := Sl.le hs7; have hcap7 := Sl.cap hs7; clear hs7 hk7 x0 x1 x2 x3 y0 y1 y2 y3 hzx; have x0 := K7.out.cell (p := ⟨w.heap.size, 0, none⟩) (v := .int .i64 x.holder) (by go_simp); have x1 := K7.out.cell (p := ⟨w.heap.size, 1, none⟩) (v := .int .i64 x.entity) (by go_simp); have x2 := K7.out.cell (p := ⟨w.heap.size, 2, none⟩) (v := .int .i64 x.date) (by go_simp); have x3 := K7.out.cell (p := ⟨w.heap.size, 3, none⟩) (v := .int .i64 x.share) (by go_simp); have y0 := K7.out.cell (p := ⟨w.heap.size, 4, none⟩) (v := .int .i64 y.holder) (by go_simp); have y1 := K7.out.cell (p := ⟨w.heap.size, 5, none⟩) (v := .int .i64 y.entity) (by go_simp); have y2 := K7.out.cell (p := ⟨w.heap.size, 6, none⟩) (v := .int .i64 y.date) (by go_simp); have y3 := K7.out.cell (p := ⟨w.heap.size, 7, none⟩) (v := .int .i64 y.share) (by go_simp); have hzx := World.block_lt_of_cell? _ _ x0) | (go_at_call 25; (with_reducible refine (HSET1.out _ _ _ _ _ HH1.out).mono ?_); rintro e w6 ⟨ao6, cap6, b6, o6, rfl, hs6, hk6⟩; have HS6 := Lib.hid hs6; have K6 := Lib.hid (K1.out.trans hk6); have hle6 := Sl.le hs6; have hcap6 := Sl.cap hs6; clear hs6 hk6 x0 x1 x2 x3 y0 y1 y2 y3 hzx; have x0 := K6.out.cell (p := ⟨w.heap.size, 0, none⟩) (v := .int .i64 x.holder) (by go_simp); have x1 := K6.out.cell (p := ⟨w.heap.size, 1, none⟩) (v := .int .i64 x.entity) (by go_simp); have x2 := K6.out.cell (p := ⟨w.heap.size, 2, none⟩) (v := .int .i64 x.date) (by go_simp); have x3 := K6.out.cell (p := ⟨w.heap.size, 3, none⟩) (v := .int .i64 x.share) (by go_simp); have y0 := K6.out.cell (p := ⟨w.heap.size, 4, none⟩) (v := .int .i64 y.holder) (by go_simp); have y1 := K6.out.cell (p := ⟨w.heap.size, 5, none⟩) (v := .int .i64 y.entity) (by go_simp); have y2 := K6.out.cell (p := ⟨w.heap.size, 6, none⟩) (v := .int .i64 y.date) (by go_simp); have y3 := K6.out.cell (p := ⟨w.heap.size, 7, none⟩) (v := .int .i64 y.share) (by go_simp); have hzx := World.block_lt_of_cell? _ _ x0) | (go_at_call 15; refine (hawake_any _).mono ?_; rintro e w1 ⟨rfl, hk1⟩; have K1 := Lib.hid hk1; have HH1 := Lib.hid (HH.out.keeps (((Keeps.refl w).alloc _).trans hk1)); clear hk1; have x0 := K1.out.cell (p := ⟨w.heap.size, 0, none⟩) (v := .int .i64 x.holder) (by go_simp); have x1 := K1.out.cell (p := ⟨w.heap.size, 1, none⟩) (v := .int .i64 x.entity) (by go_simp); have x2 := K1.out.cell (p := ⟨w.heap.size, 2, none⟩) (v := .int .i64 x.date) (by go_simp); have x3 := K1.out.cell (p := ⟨w.heap.size, 3, none⟩) (v := .int .i64 x.share) (by go_simp); have y0 := K1.out.cell (p := ⟨w.heap.size, 4, none⟩) (v := .int .i64 y.holder) (by go_simp); have y1 := K1.out.cell (p := ⟨w.heap.size, 5, none⟩) (v := .int .i64 y.entity) (by go_simp); have y2 := K1.out.cell (p := ⟨w.heap.size, 6, none⟩) (v := .int .i64 y.date) (by go_simp); have y3 := K1.out.cell (p := ⟨w.heap.size, 7, none⟩) (v := .int .i64 y.share) (by go_simp); have hzx := World.block_lt_of_cell? _ _ x0))
      go_cut [11, 12] from 39 to 43 (fun va vb wx => ∃ B1 B2 : Nat, va = .pointer (some ⟨B1, 0, none⟩) ∧ vb = .pointer (some ⟨B2, 0, none⟩) ∧ Hid (Keeps w7 wx ∧ Cells4 wx B1 x ∧ Cells4 wx B2 y))
      case first =>
        go_region_law (fail)
        all_goals (go_wp2_with fail; go_meet; exact ⟨_, _, rfl, rfl, Lib.hid ⟨(((Keeps.refl w7).alloc _).alloc _).drew, ⟨by go_simp, by go_simp, by go_simp, by go_simp⟩, ⟨by go_simp, by go_simp, by go_simp, by go_simp⟩⟩⟩)
      case rest =>
        obtain ⟨B1, B2, rfl, rfl, HB⟩ := hcut
        have HS2 : Hid (∀ w', Keeps wc.drew w' → Cells4 w' B1 x) := Lib.hid (fun w' h => HB.out.2.1.keeps ((Keeps.refl wc).drew.trans h))
        have HSA : Hid (∀ W, Keeps wc.drew W → Hols W ao6 rl cap6 b6 o6) := Lib.hid (fun W h => HS67.out.keeps (HB.out.1.drew.trans h))
        have HSB : Hid (∀ W, Keeps wc.drew W → Hols W ao7 rl cap7 b7 o7) := Lib.hid (fun W h => HS7.out.keeps (HB.out.1.drew.trans h))
        go_wp2_with fail
        refine wp_region_steps (A := ?_) Keeps [some 43, some 44, some 45, some 46, some 47, some 48, some 49, some 50, some 51, some 52, some 53, some 54, some 55, some 56, some 57, some 58, some 59, some 60, some 61, some 62, some 63, some 64, some 65, some 66, some 67, some 68, some 69] [[], [0], [1], [2], [2], [2, 3, 4], [2, 5], [2, 6], [7], [8], [8], [8, 10], [8], [8, 12], [8], [8, 14], [8, 9, 11, 13, 15], [8], [8, 17], [8, 16, 18], [8, 19], [20], [21], [21], [21, 22, 23], [21, 24], [21, 25]] 27 (by kernel_rfl) (by kernel_rfl) (by kernel_rfl) (by kernel_rfl) (by kernel_rfl) (by kernel_rfl) Keeps.refl (fun _ _ _ => Keeps.trans) ?_ ?_
        rotate_left
        · intro f; simp only [putL, Act.put, List.setIfInBounds_toArray, List.set_cons_zero, List.set_cons_succ, Nat.zero_add, Nat.reduceAdd]; exact rfl
        refine Steps.pure (v := ?_) Keeps.refl rfl (fun f w' hR hV => ⟨?_, ?_⟩) ?_
        rotate_left
        · (rfl)
        · (clear hV; obtain ⟨x0, x1, x2, x3⟩ := HS2.out _ hR; go_simp; all_goals (try with_reducible rfl))
        refine Steps.pure (v := ?_) Keeps.refl rfl (fun f w' hR hV => ⟨?_, ?_⟩) ?_
        rotate_left
        · (rfl)
        · (obtain ⟨h0, _⟩ := hV; replace h0 : f 0 = _ := h0; obtain ⟨x0, x1, x2, x3⟩ := HS2.out _ hR; go_simp; all_goals (try with_reducible rfl))
        refine Steps.pure (v := ?_) Keeps.refl rfl (fun f w' hR hV => ⟨?_, ?_⟩) ?_
        rotate_left
        · (rfl)
        · (obtain ⟨h1, _⟩ := hV; replace h1 : f 1 = _ := h1; obtain ⟨x0, x1, x2, x3⟩ := HS2.out _ hR; go_simp; all_goals (try with_reducible rfl))
        all_goals first
          | (refine Steps.pure (v := ?_) Keeps.refl rfl (fun f w' hR hV => ⟨?_, ?_⟩) ?_
             rotate_left
             · (obtain ⟨h2, _⟩ := hV; replace h2 : f 2 = _ := h2; exact want_yes (t := 45) rfl (by kernel_rfl) rfl h2)
             · (obtain ⟨h2, _⟩ := hV; replace h2 : f 2 = _ := h2; obtain ⟨x0, x1, x2, x3⟩ := HS2.out _ hR; go_simp; all_goals (try with_reducible rfl)))
          | (refine Steps.skip rfl (fun f w' hR hV => ?_) ?_
             · (obtain ⟨h2, _⟩ := hV; replace h2 : f 2 = _ := h2; first | exact want_no (t := 45) rfl (by kernel_rfl) rfl h2 rfl | exact want_undef (t := 45) rfl (by kernel_rfl) rfl h2))
        all_goals first
          | (refine Steps.pure (v := ?_) Keeps.refl rfl (fun f w' hR hV => ⟨?_, ?_⟩) ?_
             rotate_left
             · (obtain ⟨h2, _⟩ := hV; replace h2 : f 2 = _ := h2; exact want_yes (t := 45) rfl (by kernel_rfl) rfl h2)
             · (obtain ⟨h2, _⟩ := hV; replace h2 : f 2 = _ := h2; obtain ⟨x0, x1, x2, x3⟩ := HS2.out _ hR; go_simp; all_goals (try with_reducible rfl)))
          | (refine Steps.skip rfl (fun f w' hR hV => ?_) ?_
             · (obtain ⟨h2, _⟩ := hV; replace h2 : f 2 = _ := h2; first | exact want_no (t := 45) rfl (by kernel_rfl) rfl h2 rfl | exact want_undef (t := 45) rfl (by kernel_rfl) rfl h2))
        all_goals first
          | (refine Steps.call (fun _ v => v = .bool true) rfl (fun _ _ _ _ h => h) (fun f w' hR hV => ⟨?_, ?_⟩) ?_
             · (obtain ⟨h2, _, _, _⟩ := hV; replace h2 : f 2 = _ := h2; exact want_yes (t := 45) rfl (by kernel_rfl) rfl h2)
             · (obtain ⟨h2, h3, h4, _⟩ := hV; replace h2 : f 2 = _ := h2; replace h3 : f 3 = _ := h3; replace h4 : f 4 = _ := h4; obtain ⟨x0, x1, x2, x3⟩ := HS2.out _ hR; go_simp; go_at_call 27; refine (sameAll_any rl ao6 ao7 cap6 b6 o6 cap7 b7 o7 _ (HSA.out _ hR) (HSB.out _ hR)).mono ?_; rintro e w2 ⟨rfl, hk2⟩; exact StepPost.of _ rfl rfl hk2))
          | (refine Steps.skip rfl (fun f w' hR hV => ?_) ?_
             · (obtain ⟨h2, _, _, _⟩ := hV; replace h2 : f 2 = _ := h2; first | exact want_no (t := 45) rfl (by kernel_rfl) rfl h2 rfl | exact want_undef (t := 45) rfl (by kernel_rfl) rfl h2))
        all_goals first
          | (refine Steps.pure (v := ?_) Keeps.refl rfl (fun f w' hR hV => ⟨?_, ?_⟩) ?_
             rotate_left
             · (obtain ⟨h2, _, _⟩ := hV; replace h2 : f 2 = _ := h2; exact want_yes (t := 45) rfl (by kernel_rfl) rfl h2)
             · (obtain ⟨h2, h5, _⟩ := hV; replace h2 : f 2 = _ := h2; replace h5 : f 5 = _ := h5; obtain ⟨x0, x1, x2, x3⟩ := HS2.out _ hR; go_simp; all_goals (try with_reducible rfl)))
          | (refine Steps.skip rfl (fun f w' hR hV => ?_) ?_
             · (obtain ⟨h2, _, _⟩ := hV; replace h2 : f 2 = _ := h2; first | exact want_no (t := 45) rfl (by kernel_rfl) rfl h2 rfl | exact want_undef (t := 45) rfl (by kernel_rfl) rfl h2))
        all_goals (
          refine Steps.pure (v := .bool false) Keeps.refl rfl (fun f w' hR hV => ⟨?_, ?_⟩) ?_
          · (rfl)
          · (obtain ⟨h2, h6, _⟩ := hV; replace h2 : f 2 = _ := h2; replace h6 : f 6 = _ := h6; obtain ⟨x0, x1, x2, x3⟩ := HS2.out _ hR; go_simp; all_goals (try simp)))
        all_goals (
          refine Steps.pure (v := ?_) Keeps.refl rfl (fun f w' hR hV => ⟨?_, ?_⟩) ?_
          rotate_left
          · (rfl)
          · (obtain ⟨h7, _⟩ := hV; replace h7 : f 7 = _ := h7; obtain ⟨x0, x1, x2, x3⟩ := HS2.out _ hR; go_simp; all_goals (try with_reducible rfl)))
        all_goals first
          | (refine Steps.pure (v := ?_) Keeps.refl rfl (fun f w' hR hV => ⟨?_, ?_⟩) ?_
             rotate_left
             · (obtain ⟨h8, _⟩ := hV; replace h8 : f 8 = _ := h8; exact want_yes (t := 51) rfl (by kernel_rfl) rfl h8)
             · (obtain ⟨h8, _⟩ := hV; replace h8 : f 8 = _ := h8; obtain ⟨x0, x1, x2, x3⟩ := HS2.out _ hR; go_simp; all_goals (try with_reducible rfl)))
          | (refine Steps.skip rfl (fun f w' hR hV => ?_) ?_
             · (obtain ⟨h8, _⟩ := hV; replace h8 : f 8 = _ := h8; first | exact want_no (t := 51) rfl (by kernel_rfl) rfl h8 rfl | exact want_undef (t := 51) rfl (by kernel_rfl) rfl h8))
        all_goals first
          | (refine Steps.pure (v := ?_) Keeps.refl rfl (fun f w' hR hV => ⟨?_, ?_⟩) ?_
             rotate_left
             · (obtain ⟨h8, _⟩ := hV; replace h8 : f 8 = _ := h8; exact want_yes (t := 51) rfl (by kernel_rfl) rfl h8)
             · (obtain ⟨h8, _⟩ := hV; replace h8 : f 8 = _ := h8; obtain ⟨x0, x1, x2, x3⟩ := HS2.out _ hR; go_simp; all_goals (try with_reducible rfl)))
          | (refine Steps.skip rfl (fun f w' hR hV => ?_) ?_
             · (obtain ⟨h8, _⟩ := hV; replace h8 : f 8 = _ := h8; first | exact want_no (t := 51) rfl (by kernel_rfl) rfl h8 rfl | exact want_undef (t := 51) rfl (by kernel_rfl) rfl h8))
        all_goals first
          | (refine Steps.pure (v := ?_) Keeps.refl rfl (fun f w' hR hV => ⟨?_, ?_⟩) ?_
             rotate_left
             · (obtain ⟨h8, _, _⟩ := hV; replace h8 : f 8 = _ := h8; exact want_yes (t := 51) rfl (by kernel_rfl) rfl h8)
             · (obtain ⟨h8, h10, _⟩ := hV; replace h8 : f 8 = _ := h8; replace h10 : f 10 = _ := h10; obtain ⟨x0, x1, x2, x3⟩ := HS2.out _ hR; go_simp; all_goals (try with_reducible rfl)))
          | (refine Steps.skip rfl (fun f w' hR hV => ?_) ?_
             · (obtain ⟨h8, _, _⟩ := hV; replace h8 : f 8 = _ := h8; first | exact want_no (t := 51) rfl (by kernel_rfl) rfl h8 rfl | exact want_undef (t := 51) rfl (by kernel_rfl) rfl h8))
        all_goals first
          | (refine Steps.pure (v := ?_) Keeps.refl rfl (fun f w' hR hV => ⟨?_, ?_⟩) ?_
             rotate_left
             · (obtain ⟨h8, _⟩ := hV; replace h8 : f 8 = _ := h8; exact want_yes (t := 51) rfl (by kernel_rfl) rfl h8)
             · (obtain ⟨h8, _⟩ := hV; replace h8 : f 8 = _ := h8; obtain ⟨x0, x1, x2, x3⟩ := HS2.out _ hR; go_simp; all_goals (try with_reducible rfl)))
          | (refine Steps.skip rfl (fun f w' hR hV => ?_) ?_
             · (obtain ⟨h8, _⟩ := hV; replace h8 : f 8 = _ := h8; first | exact want_no (t := 51) rfl (by kernel_rfl) rfl h8 rfl | exact want_undef (t := 51) rfl (by kernel_rfl) rfl h8))
        all_goals first
          | (refine Steps.pure (v := ?_) Keeps.refl rfl (fun f w' hR hV => ⟨?_, ?_⟩) ?_
             rotate_left
             · (obtain ⟨h8, _, _⟩ := hV; replace h8 : f 8 = _ := h8; exact want_yes (t := 51) rfl (by kernel_rfl) rfl h8)
             · (obtain ⟨h8, h12, _⟩ := hV; replace h8 : f 8 = _ := h8; replace h12 : f 12 = _ := h12; obtain ⟨x0, x1, x2, x3⟩ := HS2.out _ hR; go_simp; all_goals (try with_reducible rfl)))
          | (refine Steps.skip rfl (fun f w' hR hV => ?_) ?_
             · (obtain ⟨h8, _, _⟩ := hV; replace h8 : f 8 = _ := h8; first | exact want_no (t := 51) rfl (by kernel_rfl) rfl h8 rfl | exact want_undef (t := 51) rfl (by kernel_rfl) rfl h8))
        all_goals first
          | (refine Steps.pure (v := ?_) Keeps.refl rfl (fun f w' hR hV => ⟨?_, ?_⟩) ?_
             rotate_left
             · (obtain ⟨h8, _⟩ := hV; replace h8 : f 8 = _ := h8; exact want_yes (t := 51) rfl (by kernel_rfl) rfl h8)
             · (obtain ⟨h8, _⟩ := hV; replace h8 : f 8 = _ := h8; obtain ⟨x0, x1, x2, x3⟩ := HS2.out _ hR; go_simp; all_goals (try with_reducible rfl)))
          | (refine Steps.skip rfl (fun f w' hR hV => ?_) ?_
             · (obtain ⟨h8, _⟩ := hV; replace h8 : f 8 = _ := h8; first | exact want_no (t := 51) rfl (by kernel_rfl) rfl h8 rfl | exact want_undef (t := 51) rfl (by kernel_rfl) rfl h8))
        all_goals first
          | (refine Steps.pure (v := ?_) Keeps.refl rfl (fun f w' hR hV => ⟨?_, ?_⟩) ?_
             rotate_left
             · (obtain ⟨h8, _, _⟩ := hV; replace h8 : f 8 = _ := h8; exact want_yes (t := 51) rfl (by kernel_rfl) rfl h8)
             · (obtain ⟨h8, h14, _⟩ := hV; replace h8 : f 8 = _ := h8; replace h14 : f 14 = _ := h14; obtain ⟨x0, x1, x2, x3⟩ := HS2.out _ hR; go_simp; all_goals (try with_reducible rfl)))
          | (refine Steps.skip rfl (fun f w' hR hV => ?_) ?_
             · (obtain ⟨h8, _, _⟩ := hV; replace h8 : f 8 = _ := h8; first | exact want_no (t := 51) rfl (by kernel_rfl) rfl h8 rfl | exact want_undef (t := 51) rfl (by kernel_rfl) rfl h8))
        all_goals first
          | (refine Steps.call (fun _ v => v = .int .i64 x.share) rfl (fun _ _ _ _ h => h) (fun f w' hR hV => ⟨?_, ?_⟩) ?_
             · (obtain ⟨h8, _, _, _, _, _⟩ := hV; replace h8 : f 8 = _ := h8; exact want_yes (t := 51) rfl (by kernel_rfl) rfl h8)
             · (obtain ⟨h8, h9, h11, h13, h15, _⟩ := hV; replace h8 : f 8 = _ := h8; replace h9 : f 9 = _ := h9; replace h11 : f 11 = _ := h11; replace h13 : f 13 = _ := h13; replace h15 : f 15 = _ := h15; obtain ⟨x0, x1, x2, x3⟩ := HS2.out _ hR; go_simp; go_at_call 18; refine (HAT1.out _ _ _ _ _ (HSA.out _ hR)).mono ?_; rintro e w2 ⟨rfl, hk2⟩; exact StepPost.of _ rfl rfl hk2))
          | (refine Steps.skip rfl (fun f w' hR hV => ?_) ?_
             · (obtain ⟨h8, _, _, _, _, _⟩ := hV; replace h8 : f 8 = _ := h8; first | exact want_no (t := 51) rfl (by kernel_rfl) rfl h8 rfl | exact want_undef (t := 51) rfl (by kernel_rfl) rfl h8))
        all_goals first
          | (refine Steps.pure (v := ?_) Keeps.refl rfl (fun f w' hR hV => ⟨?_, ?_⟩) ?_
             rotate_left
             · (obtain ⟨h8, _⟩ := hV; replace h8 : f 8 = _ := h8; exact want_yes (t := 51) rfl (by kernel_rfl) rfl h8)
             · (obtain ⟨h8, _⟩ := hV; replace h8 : f 8 = _ := h8; obtain ⟨x0, x1, x2, x3⟩ := HS2.out _ hR; go_simp; all_goals (try with_reducible rfl)))
          | (refine Steps.skip rfl (fun f w' hR hV => ?_) ?_
             · (obtain ⟨h8, _⟩ := hV; replace h8 : f 8 = _ := h8; first | exact want_no (t := 51) rfl (by kernel_rfl) rfl h8 rfl | exact want_undef (t := 51) rfl (by kernel_rfl) rfl h8))
        all_goals first
          | (refine Steps.pure (v := ?_) Keeps.refl rfl (fun f w' hR hV => ⟨?_, ?_⟩) ?_
             rotate_left
             · (obtain ⟨h8, _, _⟩ := hV; replace h8 : f 8 = _ := h8; exact want_yes (t := 51) rfl (by kernel_rfl) rfl h8)
             · (obtain ⟨h8, h17, _⟩ := hV; replace h8 : f 8 = _ := h8; replace h17 : f 17 = _ := h17; obtain ⟨x0, x1, x2, x3⟩ := HS2.out _ hR; go_simp; all_goals (try with_reducible rfl)))
          | (refine Steps.skip rfl (fun f w' hR hV => ?_) ?_
             · (obtain ⟨h8, _, _⟩ := hV; replace h8 : f 8 = _ := h8; first | exact want_no (t := 51) rfl (by kernel_rfl) rfl h8 rfl | exact want_undef (t := 51) rfl (by kernel_rfl) rfl h8))
        all_goals first
          | (refine Steps.pure (v := .bool false) Keeps.refl rfl (fun f w' hR hV => ⟨?_, ?_⟩) ?_
             · (obtain ⟨h8, _, _, _⟩ := hV; replace h8 : f 8 = _ := h8; exact want_yes (t := 51) rfl (by kernel_rfl) rfl h8)
             · (obtain ⟨h8, h16, h18, _⟩ := hV; replace h8 : f 8 = _ := h8; replace h16 : f 16 = _ := h16; replace h18 : f 18 = _ := h18; obtain ⟨x0, x1, x2, x3⟩ := HS2.out _ hR; go_simp; all_goals (try simp)))
          | (refine Steps.skip rfl (fun f w' hR hV => ?_) ?_
             · (obtain ⟨h8, _, _, _⟩ := hV; replace h8 : f 8 = _ := h8; first | exact want_no (t := 51) rfl (by kernel_rfl) rfl h8 rfl | exact want_undef (t := 51) rfl (by kernel_rfl) rfl h8))
        all_goals (
          refine Steps.pure (v := .bool false) Keeps.refl rfl (fun f w' hR hV => ⟨?_, ?_⟩) ?_
          · (rfl)
          · (obtain ⟨h8, h19, _⟩ := hV; replace h8 : f 8 = _ := h8; replace h19 : f 19 = _ := h19; obtain ⟨x0, x1, x2, x3⟩ := HS2.out _ hR; go_simp; all_goals (try simp)))
        all_goals (
          refine Steps.pure (v := ?_) Keeps.refl rfl (fun f w' hR hV => ⟨?_, ?_⟩) ?_
          rotate_left
          · (rfl)
          · (obtain ⟨h20, _⟩ := hV; replace h20 : f 20 = _ := h20; obtain ⟨x0, x1, x2, x3⟩ := HS2.out _ hR; go_simp; all_goals (try with_reducible rfl)))
        all_goals first
          | (refine Steps.pure (v := ?_) Keeps.refl rfl (fun f w' hR hV => ⟨?_, ?_⟩) ?_
             rotate_left
             · (obtain ⟨h21, _⟩ := hV; replace h21 : f 21 = _ := h21; exact want_yes (t := 64) rfl (by kernel_rfl) rfl h21)
             · (obtain ⟨h21, _⟩ := hV; replace h21 : f 21 = _ := h21; obtain ⟨x0, x1, x2, x3⟩ := HS2.out _ hR; go_simp; all_goals (try with_reducible rfl)))
          | (refine Steps.skip rfl (fun f w' hR hV => ?_) ?_
             · (obtain ⟨h21, _⟩ := hV; replace h21 : f 21 = _ := h21; first | exact want_no (t := 64) rfl (by kernel_rfl) rfl h21 rfl | exact want_undef (t := 64) rfl (by kernel_rfl) rfl h21))
        all_goals first
          | (refine Steps.pure (v := ?_) Keeps.refl rfl (fun f w' hR hV => ⟨?_, ?_⟩) ?_
             rotate_left
             · (obtain ⟨h21, _⟩ := hV; replace h21 : f 21 = _ := h21; exact want_yes (t := 64) rfl (by kernel_rfl) rfl h21)
             · (obtain ⟨h21, _⟩ := hV; replace h21 : f 21 = _ := h21; obtain ⟨x0, x1, x2, x3⟩ := HS2.out _ hR; go_simp; all_goals (try with_reducible rfl)))
          | (refine Steps.skip rfl (fun f w' hR hV => ?_) ?_
             · (obtain ⟨h21, _⟩ := hV; replace h21 : f 21 = _ := h21; first | exact want_no (t := 64) rfl (by kernel_rfl) rfl h21 rfl | exact want_undef (t := 64) rfl (by kernel_rfl) rfl h21))
        all_goals first
          | (refine Steps.call (fun _ v => v = .bool true) rfl (fun _ _ _ _ h => h) (fun f w' hR hV => ⟨?_, ?_⟩) ?_
             · (obtain ⟨h21, _, _, _⟩ := hV; replace h21 : f 21 = _ := h21; exact want_yes (t := 64) rfl (by kernel_rfl) rfl h21)
             · (obtain ⟨h21, h22, h23, _⟩ := hV; replace h21 : f 21 = _ := h21; replace h22 : f 22 = _ := h22; replace h23 : f 23 = _ := h23; obtain ⟨x0, x1, x2, x3⟩ := HS2.out _ hR; go_simp; go_at_call 16; refine (HVAL.out _ _ _ _ _ (HSA.out _ hR)).mono ?_; rintro e w2 ⟨rfl, hk2⟩; exact StepPost.of _ rfl rfl hk2))
          | (refine Steps.skip rfl (fun f w' hR hV => ?_) ?_
             · (obtain ⟨h21, _, _, _⟩ := hV; replace h21 : f 21 = _ := h21; first | exact want_no (t := 64) rfl (by kernel_rfl) rfl h21 rfl | exact want_undef (t := 64) rfl (by kernel_rfl) rfl h21))
        all_goals first
          | (refine Steps.pure (v := ?_) Keeps.refl rfl (fun f w' hR hV => ⟨?_, ?_⟩) ?_
             rotate_left
             · (obtain ⟨h21, _, _⟩ := hV; replace h21 : f 21 = _ := h21; exact want_yes (t := 64) rfl (by kernel_rfl) rfl h21)
             · (obtain ⟨h21, h24, _⟩ := hV; replace h21 : f 21 = _ := h21; replace h24 : f 24 = _ := h24; obtain ⟨x0, x1, x2, x3⟩ := HS2.out _ hR; go_simp; all_goals (try with_reducible rfl)))
          | (refine Steps.skip rfl (fun f w' hR hV => ?_) ?_
             · (obtain ⟨h21, _, _⟩ := hV; replace h21 : f 21 = _ := h21; first | exact want_no (t := 64) rfl (by kernel_rfl) rfl h21 rfl | exact want_undef (t := 64) rfl (by kernel_rfl) rfl h21))
        all_goals (
          refine Steps.pure (v := .bool false) Keeps.refl rfl (fun f w' hR hV => ⟨?_, ?_⟩) ?_
          · (rfl)
          · (obtain ⟨h21, h25, _⟩ := hV; replace h21 : f 21 = _ := h21; replace h25 : f 25 = _ := h25; obtain ⟨x0, x1, x2, x3⟩ := HS2.out _ hR; go_simp; all_goals (try simp)))
        all_goals (refine Steps.done [26] (by kernel_rfl) rfl (fun f wq hR hV => ?_); obtain ⟨h26, _⟩ := hV; replace h26 : f 26 = _ := h26; simp only [h26])
        have HR := Lib.hid ((HB.out.1.drew).trans hR)
        have HC1 := Lib.hid (HB.out.2.1.keeps ((Keeps.refl wc).drew.trans hR))
        have HC2 := Lib.hid (HB.out.2.2.keeps ((Keeps.refl wc).drew.trans hR))
        have HW := Lib.hid (((Keeps.refl w).alloc _).trans (K7.out.trans HR.out))
        obtain ⟨x0, x1, x2, x3⟩ := HC1.out
        obtain ⟨y0, y1, y2, y3⟩ := HC2.out
        have hzx := World.block_lt_of_cell? _ _ x0
        have hzy := World.block_lt_of_cell? _ _ y0
        clear hR HS2 HSA HSB
        cases p1 : (x.holder == y.holder) with
        | false =>
          have hne : ¬ (x.holder = y.holder ∧ x.entity = y.entity ∧ x.date ≤ y.date) := fun h => by simp [h.1] at p1
          obtain ⟨s, hs⟩ : ∃ s, atH l y.holder y.entity y.date = s := ⟨_, rfl⟩
          have hs2 := HATO.out hne
          rw [hs] at hs2
          have HS3 : Hid (∀ w', Keeps wq.drew w' → Cells4 w' B2 y) := Lib.hid (fun w' h => HC2.out.keeps ((Keeps.refl wq).drew.trans h))
          have HA1 : Hid (∀ W, Keeps wq.drew W → Calls Try.prog 18 #[.slice ao6 rl.length cap6, .int .i64 y.holder, .int .i64 y.entity, .int .i64 y.date] W fun en w' => en = .returned (.int .i64 s) ∧ Keeps W w') := Lib.hid (fun W h => by have := hat_any ao6 rl cap6 b6 o6 y.holder y.entity y.date W (HS67.out.keeps (HR.out.drew.trans h)); rw [hs2] at this; exact this)
          have HA2 : Hid (∀ W, Keeps wq.drew W → Calls Try.prog 18 #[.slice ao l.length cap, .int .i64 y.holder, .int .i64 y.entity, .int .i64 y.date] W fun en w' => en = .returned (.int .i64 s) ∧ Keeps W w') := Lib.hid (fun W h => by have := hat_any ao l cap b o y.holder y.entity y.date W (HH.out.keeps (HW.out.drew.trans h)); rw [hs] at this; exact this)
          clear hs hs2 hne
          go_wp2_with fail
          refine wp_region_steps (A := ?_) Keeps [some 89, some 90, some 91, some 92, some 93, some 94, some 95, some 96, some 97, some 98, some 99, some 100, some 101, some 102, some 103, some 104, some 105, some 6] [[], [], [1], [], [3], [], [5], [0, 2, 4, 6], [], [], [9], [], [11], [], [13], [8, 10, 12, 14], [7, 15], [16]] 18 (by kernel_rfl) (by kernel_rfl) (by kernel_rfl) (by kernel_rfl) (by kernel_rfl) (by kernel_rfl) Keeps.refl (fun _ _ _ => Keeps.trans) ?_ ?_
          rotate_left
          · intro f; simp only [putL, Act.put, List.setIfInBounds_toArray, List.set_cons_zero, List.set_cons_succ, Nat.zero_add, Nat.reduceAdd]; exact rfl
          refine Steps.pure (v := ?_) Keeps.refl rfl (fun f w' hR hV => ⟨?_, ?_⟩) ?_
          rotate_left
          · (rfl)
          · (clear hV; obtain ⟨y0, y1, y2, y3⟩ := HS3.out _ hR; go_simp; all_goals (try with_reducible rfl))
          refine Steps.pure (v := ?_) Keeps.refl rfl (fun f w' hR hV => ⟨?_, ?_⟩) ?_
          rotate_left
          · (rfl)
          · (clear hV; obtain ⟨y0, y1, y2, y3⟩ := HS3.out _ hR; go_simp; all_goals (try with_reducible rfl))
          refine Steps.pure (v := ?_) Keeps.refl rfl (fun f w' hR hV => ⟨?_, ?_⟩) ?_
          rotate_left
          · (rfl)
          · (obtain ⟨h1, _⟩ := hV; replace h1 : f 1 = _ := h1; obtain ⟨y0, y1, y2, y3⟩ := HS3.out _ hR; go_simp; all_goals (try with_reducible rfl))
          refine Steps.pure (v := ?_) Keeps.refl rfl (fun f w' hR hV => ⟨?_, ?_⟩) ?_
          rotate_left
          · (rfl)
          · (clear hV; obtain ⟨y0, y1, y2, y3⟩ := HS3.out _ hR; go_simp; all_goals (try with_reducible rfl))
          refine Steps.pure (v := ?_) Keeps.refl rfl (fun f w' hR hV => ⟨?_, ?_⟩) ?_
          rotate_left
          · (rfl)
          · (obtain ⟨h3, _⟩ := hV; replace h3 : f 3 = _ := h3; obtain ⟨y0, y1, y2, y3⟩ := HS3.out _ hR; go_simp; all_goals (try with_reducible rfl))
          refine Steps.pure (v := ?_) Keeps.refl rfl (fun f w' hR hV => ⟨?_, ?_⟩) ?_
          rotate_left
          · (rfl)
          · (clear hV; obtain ⟨y0, y1, y2, y3⟩ := HS3.out _ hR; go_simp; all_goals (try with_reducible rfl))
          refine Steps.pure (v := ?_) Keeps.refl rfl (fun f w' hR hV => ⟨?_, ?_⟩) ?_
          rotate_left
          · (rfl)
          · (obtain ⟨h5, _⟩ := hV; replace h5 : f 5 = _ := h5; obtain ⟨y0, y1, y2, y3⟩ := HS3.out _ hR; go_simp; all_goals (try with_reducible rfl))
          refine Steps.call (fun _ v => v = .int .i64 s) rfl (fun _ _ _ _ h => h) (fun f w' hR hV => ⟨?_, ?_⟩) ?_
          · (rfl)
          · (obtain ⟨h0, h2, h4, h6, _⟩ := hV; replace h0 : f 0 = _ := h0; replace h2 : f 2 = _ := h2; replace h4 : f 4 = _ := h4; replace h6 : f 6 = _ := h6; obtain ⟨y0, y1, y2, y3⟩ := HS3.out _ hR; go_simp; go_at_call 18; refine (HA1.out _ hR).mono ?_; rintro e w2 ⟨rfl, hk2⟩; exact StepPost.of _ rfl rfl hk2)
          refine Steps.pure (v := ?_) Keeps.refl rfl (fun f w' hR hV => ⟨?_, ?_⟩) ?_
          rotate_left
          · (rfl)
          · (clear hV; obtain ⟨y0, y1, y2, y3⟩ := HS3.out _ hR; go_simp; all_goals (try with_reducible rfl))
          refine Steps.pure (v := ?_) Keeps.refl rfl (fun f w' hR hV => ⟨?_, ?_⟩) ?_
          rotate_left
          · (rfl)
          · (clear hV; obtain ⟨y0, y1, y2, y3⟩ := HS3.out _ hR; go_simp; all_goals (try with_reducible rfl))
          refine Steps.pure (v := ?_) Keeps.refl rfl (fun f w' hR hV => ⟨?_, ?_⟩) ?_
          rotate_left
          · (rfl)
          · (obtain ⟨h9, _⟩ := hV; replace h9 : f 9 = _ := h9; obtain ⟨y0, y1, y2, y3⟩ := HS3.out _ hR; go_simp; all_goals (try with_reducible rfl))
          refine Steps.pure (v := ?_) Keeps.refl rfl (fun f w' hR hV => ⟨?_, ?_⟩) ?_
          rotate_left
          · (rfl)
          · (clear hV; obtain ⟨y0, y1, y2, y3⟩ := HS3.out _ hR; go_simp; all_goals (try with_reducible rfl))
          refine Steps.pure (v := ?_) Keeps.refl rfl (fun f w' hR hV => ⟨?_, ?_⟩) ?_
          rotate_left
          · (rfl)
          · (obtain ⟨h11, _⟩ := hV; replace h11 : f 11 = _ := h11; obtain ⟨y0, y1, y2, y3⟩ := HS3.out _ hR; go_simp; all_goals (try with_reducible rfl))
          refine Steps.pure (v := ?_) Keeps.refl rfl (fun f w' hR hV => ⟨?_, ?_⟩) ?_
          rotate_left
          · (rfl)
          · (clear hV; obtain ⟨y0, y1, y2, y3⟩ := HS3.out _ hR; go_simp; all_goals (try with_reducible rfl))
          refine Steps.pure (v := ?_) Keeps.refl rfl (fun f w' hR hV => ⟨?_, ?_⟩) ?_
          rotate_left
          · (rfl)
          · (obtain ⟨h13, _⟩ := hV; replace h13 : f 13 = _ := h13; obtain ⟨y0, y1, y2, y3⟩ := HS3.out _ hR; go_simp; all_goals (try with_reducible rfl))
          refine Steps.call (fun _ v => v = .int .i64 s) rfl (fun _ _ _ _ h => h) (fun f w' hR hV => ⟨?_, ?_⟩) ?_
          · (rfl)
          · (obtain ⟨h8, h10, h12, h14, _⟩ := hV; replace h8 : f 8 = _ := h8; replace h10 : f 10 = _ := h10; replace h12 : f 12 = _ := h12; replace h14 : f 14 = _ := h14; obtain ⟨y0, y1, y2, y3⟩ := HS3.out _ hR; go_simp; go_at_call 18; refine (HA2.out _ hR).mono ?_; rintro e w2 ⟨rfl, hk2⟩; exact StepPost.of _ rfl rfl hk2)
          refine Steps.pure (v := ?_) Keeps.refl rfl (fun f w' hR hV => ⟨?_, ?_⟩) ?_
          rotate_left
          · (rfl)
          · (obtain ⟨h7, h15, _⟩ := hV; replace h7 : f 7 = _ := h7; replace h15 : f 15 = _ := h15; obtain ⟨y0, y1, y2, y3⟩ := HS3.out _ hR; go_simp; all_goals (try with_reducible rfl))
          refine Steps.pure (v := .bool true) Keeps.refl rfl (fun f w' hR hV => ⟨?_, ?_⟩) ?_
          · (rfl)
          · (obtain ⟨h16, _⟩ := hV; replace h16 : f 16 = _ := h16; obtain ⟨y0, y1, y2, y3⟩ := HS3.out _ hR; go_simp; all_goals (try simp))
          all_goals (refine Steps.done [17] (by kernel_rfl) rfl (fun f wz hR hV => ?_); obtain ⟨h17, _⟩ := hV; replace h17 : f 17 = _ := h17; simp only [h17])
          have HZ := Lib.hid (HW.out.drew.trans hR)
          clear hR
          go_wp2_with fail
          go_ret
          exact ⟨rfl, HZ.out⟩
        | true =>
          cases p2 : (x.entity == y.entity) with
          | false =>
            have hne : ¬ (x.holder = y.holder ∧ x.entity = y.entity ∧ x.date ≤ y.date) := fun h => by simp [h.2.1] at p2
            obtain ⟨s, hs⟩ : ∃ s, atH l y.holder y.entity y.date = s := ⟨_, rfl⟩
            have hs2 := HATO.out hne
            rw [hs] at hs2
            have HS3 : Hid (∀ w', Keeps wq.drew w' → Cells4 w' B2 y) := Lib.hid (fun w' h => HC2.out.keeps ((Keeps.refl wq).drew.trans h))
            have HA1 : Hid (∀ W, Keeps wq.drew W → Calls Try.prog 18 #[.slice ao6 rl.length cap6, .int .i64 y.holder, .int .i64 y.entity, .int .i64 y.date] W fun en w' => en = .returned (.int .i64 s) ∧ Keeps W w') := Lib.hid (fun W h => by have := hat_any ao6 rl cap6 b6 o6 y.holder y.entity y.date W (HS67.out.keeps (HR.out.drew.trans h)); rw [hs2] at this; exact this)
            have HA2 : Hid (∀ W, Keeps wq.drew W → Calls Try.prog 18 #[.slice ao l.length cap, .int .i64 y.holder, .int .i64 y.entity, .int .i64 y.date] W fun en w' => en = .returned (.int .i64 s) ∧ Keeps W w') := Lib.hid (fun W h => by have := hat_any ao l cap b o y.holder y.entity y.date W (HH.out.keeps (HW.out.drew.trans h)); rw [hs] at this; exact this)
            clear hs hs2 hne
            go_wp2_with fail
            refine wp_region_steps (A := ?_) Keeps [some 89, some 90, some 91, some 92, some 93, some 94, some 95, some 96, some 97, some 98, some 99, some 100, some 101, some 102, some 103, some 104, some 105, some 6] [[], [], [1], [], [3], [], [5], [0, 2, 4, 6], [], [], [9], [], [11], [], [13], [8, 10, 12, 14], [7, 15], [16]] 18 (by kernel_rfl) (by kernel_rfl) (by kernel_rfl) (by kernel_rfl) (by kernel_rfl) (by kernel_rfl) Keeps.refl (fun _ _ _ => Keeps.trans) ?_ ?_
            rotate_left
            · intro f; simp only [putL, Act.put, List.setIfInBounds_toArray, List.set_cons_zero, List.set_cons_succ, Nat.zero_add, Nat.reduceAdd]; exact rfl
            refine Steps.pure (v := ?_) Keeps.refl rfl (fun f w' hR hV => ⟨?_, ?_⟩) ?_
            rotate_left
            · (rfl)
            · (clear hV; obtain ⟨y0, y1, y2, y3⟩ := HS3.out _ hR; go_simp; all_goals (try with_reducible rfl))
            refine Steps.pure (v := ?_) Keeps.refl rfl (fun f w' hR hV => ⟨?_, ?_⟩) ?_
            rotate_left
            · (rfl)
            · (clear hV; obtain ⟨y0, y1, y2, y3⟩ := HS3.out _ hR; go_simp; all_goals (try with_reducible rfl))
            refine Steps.pure (v := ?_) Keeps.refl rfl (fun f w' hR hV => ⟨?_, ?_⟩) ?_
            rotate_left
            · (rfl)
            · (obtain ⟨h1, _⟩ := hV; replace h1 : f 1 = _ := h1; obtain ⟨y0, y1, y2, y3⟩ := HS3.out _ hR; go_simp; all_goals (try with_reducible rfl))
            refine Steps.pure (v := ?_) Keeps.refl rfl (fun f w' hR hV => ⟨?_, ?_⟩) ?_
            rotate_left
            · (rfl)
            · (clear hV; obtain ⟨y0, y1, y2, y3⟩ := HS3.out _ hR; go_simp; all_goals (try with_reducible rfl))
            refine Steps.pure (v := ?_) Keeps.refl rfl (fun f w' hR hV => ⟨?_, ?_⟩) ?_
            rotate_left
            · (rfl)
            · (obtain ⟨h3, _⟩ := hV; replace h3 : f 3 = _ := h3; obtain ⟨y0, y1, y2, y3⟩ := HS3.out _ hR; go_simp; all_goals (try with_reducible rfl))
            refine Steps.pure (v := ?_) Keeps.refl rfl (fun f w' hR hV => ⟨?_, ?_⟩) ?_
            rotate_left
            · (rfl)
            · (clear hV; obtain ⟨y0, y1, y2, y3⟩ := HS3.out _ hR; go_simp; all_goals (try with_reducible rfl))
            refine Steps.pure (v := ?_) Keeps.refl rfl (fun f w' hR hV => ⟨?_, ?_⟩) ?_
            rotate_left
            · (rfl)
            · (obtain ⟨h5, _⟩ := hV; replace h5 : f 5 = _ := h5; obtain ⟨y0, y1, y2, y3⟩ := HS3.out _ hR; go_simp; all_goals (try with_reducible rfl))
            refine Steps.call (fun _ v => v = .int .i64 s) rfl (fun _ _ _ _ h => h) (fun f w' hR hV => ⟨?_, ?_⟩) ?_
            · (rfl)
            · (obtain ⟨h0, h2, h4, h6, _⟩ := hV; replace h0 : f 0 = _ := h0; replace h2 : f 2 = _ := h2; replace h4 : f 4 = _ := h4; replace h6 : f 6 = _ := h6; obtain ⟨y0, y1, y2, y3⟩ := HS3.out _ hR; go_simp; go_at_call 18; refine (HA1.out _ hR).mono ?_; rintro e w2 ⟨rfl, hk2⟩; exact StepPost.of _ rfl rfl hk2)
            refine Steps.pure (v := ?_) Keeps.refl rfl (fun f w' hR hV => ⟨?_, ?_⟩) ?_
            rotate_left
            · (rfl)
            · (clear hV; obtain ⟨y0, y1, y2, y3⟩ := HS3.out _ hR; go_simp; all_goals (try with_reducible rfl))
            refine Steps.pure (v := ?_) Keeps.refl rfl (fun f w' hR hV => ⟨?_, ?_⟩) ?_
            rotate_left
            · (rfl)
            · (clear hV; obtain ⟨y0, y1, y2, y3⟩ := HS3.out _ hR; go_simp; all_goals (try with_reducible rfl))
            refine Steps.pure (v := ?_) Keeps.refl rfl (fun f w' hR hV => ⟨?_, ?_⟩) ?_
            rotate_left
            · (rfl)
            · (obtain ⟨h9, _⟩ := hV; replace h9 : f 9 = _ := h9; obtain ⟨y0, y1, y2, y3⟩ := HS3.out _ hR; go_simp; all_goals (try with_reducible rfl))
            refine Steps.pure (v := ?_) Keeps.refl rfl (fun f w' hR hV => ⟨?_, ?_⟩) ?_
            rotate_left
            · (rfl)
            · (clear hV; obtain ⟨y0, y1, y2, y3⟩ := HS3.out _ hR; go_simp; all_goals (try with_reducible rfl))
            refine Steps.pure (v := ?_) Keeps.refl rfl (fun f w' hR hV => ⟨?_, ?_⟩) ?_
            rotate_left
            · (rfl)
            · (obtain ⟨h11, _⟩ := hV; replace h11 : f 11 = _ := h11; obtain ⟨y0, y1, y2, y3⟩ := HS3.out _ hR; go_simp; all_goals (try with_reducible rfl))
            refine Steps.pure (v := ?_) Keeps.refl rfl (fun f w' hR hV => ⟨?_, ?_⟩) ?_
            rotate_left
            · (rfl)
            · (clear hV; obtain ⟨y0, y1, y2, y3⟩ := HS3.out _ hR; go_simp; all_goals (try with_reducible rfl))
            refine Steps.pure (v := ?_) Keeps.refl rfl (fun f w' hR hV => ⟨?_, ?_⟩) ?_
            rotate_left
            · (rfl)
            · (obtain ⟨h13, _⟩ := hV; replace h13 : f 13 = _ := h13; obtain ⟨y0, y1, y2, y3⟩ := HS3.out _ hR; go_simp; all_goals (try with_reducible rfl))
            refine Steps.call (fun _ v => v = .int .i64 s) rfl (fun _ _ _ _ h => h) (fun f w' hR hV => ⟨?_, ?_⟩) ?_
            · (rfl)
            · (obtain ⟨h8, h10, h12, h14, _⟩ := hV; replace h8 : f 8 = _ := h8; replace h10 : f 10 = _ := h10; replace h12 : f 12 = _ := h12; replace h14 : f 14 = _ := h14; obtain ⟨y0, y1, y2, y3⟩ := HS3.out _ hR; go_simp; go_at_call 18; refine (HA2.out _ hR).mono ?_; rintro e w2 ⟨rfl, hk2⟩; exact StepPost.of _ rfl rfl hk2)
            refine Steps.pure (v := ?_) Keeps.refl rfl (fun f w' hR hV => ⟨?_, ?_⟩) ?_
            rotate_left
            · (rfl)
            · (obtain ⟨h7, h15, _⟩ := hV; replace h7 : f 7 = _ := h7; replace h15 : f 15 = _ := h15; obtain ⟨y0, y1, y2, y3⟩ := HS3.out _ hR; go_simp; all_goals (try with_reducible rfl))
            refine Steps.pure (v := .bool true) Keeps.refl rfl (fun f w' hR hV => ⟨?_, ?_⟩) ?_
            · (rfl)
            · (obtain ⟨h16, _⟩ := hV; replace h16 : f 16 = _ := h16; obtain ⟨y0, y1, y2, y3⟩ := HS3.out _ hR; go_simp; all_goals (try simp))
            all_goals (refine Steps.done [17] (by kernel_rfl) rfl (fun f wz hR hV => ?_); obtain ⟨h17, _⟩ := hV; replace h17 : f 17 = _ := h17; simp only [h17])
            have HZ := Lib.hid (HW.out.drew.trans hR)
            clear hR
            go_wp2_with fail
            go_ret
            exact ⟨rfl, HZ.out⟩
          | true =>
            by_cases p3 : x.date ≤ y.date
            · have p3' : decide (x.date ≤ y.date) = true := decide_eq_true p3
              go_wp2_with fail
              go_ret
              exact ⟨rfl, HW.out⟩
            · have hne : ¬ (x.holder = y.holder ∧ x.entity = y.entity ∧ x.date ≤ y.date) := fun h => p3 h.2.2
              have p3' : decide (x.date ≤ y.date) = false := decide_eq_false p3
              obtain ⟨s, hs⟩ : ∃ s, atH l y.holder y.entity y.date = s := ⟨_, rfl⟩
              have hs2 := HATO.out hne
              rw [hs] at hs2
              have HS3 : Hid (∀ w', Keeps wq.drew w' → Cells4 w' B2 y) := Lib.hid (fun w' h => HC2.out.keeps ((Keeps.refl wq).drew.trans h))
              have HA1 : Hid (∀ W, Keeps wq.drew W → Calls Try.prog 18 #[.slice ao6 rl.length cap6, .int .i64 y.holder, .int .i64 y.entity, .int .i64 y.date] W fun en w' => en = .returned (.int .i64 s) ∧ Keeps W w') := Lib.hid (fun W h => by have := hat_any ao6 rl cap6 b6 o6 y.holder y.entity y.date W (HS67.out.keeps (HR.out.drew.trans h)); rw [hs2] at this; exact this)
              have HA2 : Hid (∀ W, Keeps wq.drew W → Calls Try.prog 18 #[.slice ao l.length cap, .int .i64 y.holder, .int .i64 y.entity, .int .i64 y.date] W fun en w' => en = .returned (.int .i64 s) ∧ Keeps W w') := Lib.hid (fun W h => by have := hat_any ao l cap b o y.holder y.entity y.date W (HH.out.keeps (HW.out.drew.trans h)); rw [hs] at this; exact this)
              clear hs hs2 hne
              go_wp2_with fail
              refine wp_region_steps (A := ?_) Keeps [some 89, some 90, some 91, some 92, some 93, some 94, some 95, some 96, some 97, some 98, some 99, some 100, some 101, some 102, some 103, some 104, some 105, some 6] [[], [], [1], [], [3], [], [5], [0, 2, 4, 6], [], [], [9], [], [11], [], [13], [8, 10, 12, 14], [7, 15], [16]] 18 (by kernel_rfl) (by kernel_rfl) (by kernel_rfl) (by kernel_rfl) (by kernel_rfl) (by kernel_rfl) Keeps.refl (fun _ _ _ => Keeps.trans) ?_ ?_
              rotate_left
              · intro f; simp only [putL, Act.put, List.setIfInBounds_toArray, List.set_cons_zero, List.set_cons_succ, Nat.zero_add, Nat.reduceAdd]; exact rfl
              refine Steps.pure (v := ?_) Keeps.refl rfl (fun f w' hR hV => ⟨?_, ?_⟩) ?_
              rotate_left
              · (rfl)
              · (clear hV; obtain ⟨y0, y1, y2, y3⟩ := HS3.out _ hR; go_simp; all_goals (try with_reducible rfl))
              refine Steps.pure (v := ?_) Keeps.refl rfl (fun f w' hR hV => ⟨?_, ?_⟩) ?_
              rotate_left
              · (rfl)
              · (clear hV; obtain ⟨y0, y1, y2, y3⟩ := HS3.out _ hR; go_simp; all_goals (try with_reducible rfl))
              refine Steps.pure (v := ?_) Keeps.refl rfl (fun f w' hR hV => ⟨?_, ?_⟩) ?_
              rotate_left
              · (rfl)
              · (obtain ⟨h1, _⟩ := hV; replace h1 : f 1 = _ := h1; obtain ⟨y0, y1, y2, y3⟩ := HS3.out _ hR; go_simp; all_goals (try with_reducible rfl))
              refine Steps.pure (v := ?_) Keeps.refl rfl (fun f w' hR hV => ⟨?_, ?_⟩) ?_
              rotate_left
              · (rfl)
              · (clear hV; obtain ⟨y0, y1, y2, y3⟩ := HS3.out _ hR; go_simp; all_goals (try with_reducible rfl))
              refine Steps.pure (v := ?_) Keeps.refl rfl (fun f w' hR hV => ⟨?_, ?_⟩) ?_
              rotate_left
              · (rfl)
              · (obtain ⟨h3, _⟩ := hV; replace h3 : f 3 = _ := h3; obtain ⟨y0, y1, y2, y3⟩ := HS3.out _ hR; go_simp; all_goals (try with_reducible rfl))
              refine Steps.pure (v := ?_) Keeps.refl rfl (fun f w' hR hV => ⟨?_, ?_⟩) ?_
              rotate_left
              · (rfl)
              · (clear hV; obtain ⟨y0, y1, y2, y3⟩ := HS3.out _ hR; go_simp; all_goals (try with_reducible rfl))
              refine Steps.pure (v := ?_) Keeps.refl rfl (fun f w' hR hV => ⟨?_, ?_⟩) ?_
              rotate_left
              · (rfl)
              · (obtain ⟨h5, _⟩ := hV; replace h5 : f 5 = _ := h5; obtain ⟨y0, y1, y2, y3⟩ := HS3.out _ hR; go_simp; all_goals (try with_reducible rfl))
              refine Steps.call (fun _ v => v = .int .i64 s) rfl (fun _ _ _ _ h => h) (fun f w' hR hV => ⟨?_, ?_⟩) ?_
              · (rfl)
              · (obtain ⟨h0, h2, h4, h6, _⟩ := hV; replace h0 : f 0 = _ := h0; replace h2 : f 2 = _ := h2; replace h4 : f 4 = _ := h4; replace h6 : f 6 = _ := h6; obtain ⟨y0, y1, y2, y3⟩ := HS3.out _ hR; go_simp; go_at_call 18; refine (HA1.out _ hR).mono ?_; rintro e w2 ⟨rfl, hk2⟩; exact StepPost.of _ rfl rfl hk2)
              refine Steps.pure (v := ?_) Keeps.refl rfl (fun f w' hR hV => ⟨?_, ?_⟩) ?_
              rotate_left
              · (rfl)
              · (clear hV; obtain ⟨y0, y1, y2, y3⟩ := HS3.out _ hR; go_simp; all_goals (try with_reducible rfl))
              refine Steps.pure (v := ?_) Keeps.refl rfl (fun f w' hR hV => ⟨?_, ?_⟩) ?_
              rotate_left
              · (rfl)
              · (clear hV; obtain ⟨y0, y1, y2, y3⟩ := HS3.out _ hR; go_simp; all_goals (try with_reducible rfl))
              refine Steps.pure (v := ?_) Keeps.refl rfl (fun f w' hR hV => ⟨?_, ?_⟩) ?_
              rotate_left
              · (rfl)
              · (obtain ⟨h9, _⟩ := hV; replace h9 : f 9 = _ := h9; obtain ⟨y0, y1, y2, y3⟩ := HS3.out _ hR; go_simp; all_goals (try with_reducible rfl))
              refine Steps.pure (v := ?_) Keeps.refl rfl (fun f w' hR hV => ⟨?_, ?_⟩) ?_
              rotate_left
              · (rfl)
              · (clear hV; obtain ⟨y0, y1, y2, y3⟩ := HS3.out _ hR; go_simp; all_goals (try with_reducible rfl))
              refine Steps.pure (v := ?_) Keeps.refl rfl (fun f w' hR hV => ⟨?_, ?_⟩) ?_
              rotate_left
              · (rfl)
              · (obtain ⟨h11, _⟩ := hV; replace h11 : f 11 = _ := h11; obtain ⟨y0, y1, y2, y3⟩ := HS3.out _ hR; go_simp; all_goals (try with_reducible rfl))
              refine Steps.pure (v := ?_) Keeps.refl rfl (fun f w' hR hV => ⟨?_, ?_⟩) ?_
              rotate_left
              · (rfl)
              · (clear hV; obtain ⟨y0, y1, y2, y3⟩ := HS3.out _ hR; go_simp; all_goals (try with_reducible rfl))
              refine Steps.pure (v := ?_) Keeps.refl rfl (fun f w' hR hV => ⟨?_, ?_⟩) ?_
              rotate_left
              · (rfl)
              · (obtain ⟨h13, _⟩ := hV; replace h13 : f 13 = _ := h13; obtain ⟨y0, y1, y2, y3⟩ := HS3.out _ hR; go_simp; all_goals (try with_reducible rfl))
              refine Steps.call (fun _ v => v = .int .i64 s) rfl (fun _ _ _ _ h => h) (fun f w' hR hV => ⟨?_, ?_⟩) ?_
              · (rfl)
              · (obtain ⟨h8, h10, h12, h14, _⟩ := hV; replace h8 : f 8 = _ := h8; replace h10 : f 10 = _ := h10; replace h12 : f 12 = _ := h12; replace h14 : f 14 = _ := h14; obtain ⟨y0, y1, y2, y3⟩ := HS3.out _ hR; go_simp; go_at_call 18; refine (HA2.out _ hR).mono ?_; rintro e w2 ⟨rfl, hk2⟩; exact StepPost.of _ rfl rfl hk2)
              refine Steps.pure (v := ?_) Keeps.refl rfl (fun f w' hR hV => ⟨?_, ?_⟩) ?_
              rotate_left
              · (rfl)
              · (obtain ⟨h7, h15, _⟩ := hV; replace h7 : f 7 = _ := h7; replace h15 : f 15 = _ := h15; obtain ⟨y0, y1, y2, y3⟩ := HS3.out _ hR; go_simp; all_goals (try with_reducible rfl))
              refine Steps.pure (v := .bool true) Keeps.refl rfl (fun f w' hR hV => ⟨?_, ?_⟩) ?_
              · (rfl)
              · (obtain ⟨h16, _⟩ := hV; replace h16 : f 16 = _ := h16; obtain ⟨y0, y1, y2, y3⟩ := HS3.out _ hR; go_simp; all_goals (try simp))
              all_goals (refine Steps.done [17] (by kernel_rfl) rfl (fun f wz hR hV => ?_); obtain ⟨h17, _⟩ := hV; replace h17 : f 17 = _ := h17; simp only [h17])
              have HZ := Lib.hid (HW.out.drew.trans hR)
              clear hR
              go_wp2_with fail
              go_ret
              exact ⟨rfl, HZ.out⟩
    · have HRL := setH_er hr h0
      subst HRL
      have e2 : (!(re == 0)) = true := by simpa using h0
      clear hr
      go_enter Try.func7, Try.ntmps7
      go_wp2_with (first | (go_at_call 25; (with_reducible refine (HSET1.out _ _ _ _ _ HH1.out).mono ?_); rintro e w6 ⟨ao6, cap6, b6, o6, rfl, hs6, hk6⟩; have HS6 := Lib.hid hs6; have K6 := Lib.hid (K1.out.trans hk6); have hle6 := Sl.le hs6; have hcap6 := Sl.cap hs6; clear hs6 hk6 x0 x1 x2 x3 y0 y1 y2 y3 hzx; have x0 := K6.out.cell (p := ⟨w.heap.size, 0, none⟩) (v := .int .i64 x.holder) (by go_simp); have x1 := K6.out.cell (p := ⟨w.heap.size, 1, none⟩) (v := .int .i64 x.entity) (by go_simp); have x2 := K6.out.cell (p := ⟨w.heap.size, 2, none⟩) (v := .int .i64 x.date) (by go_simp); have x3 := K6.out.cell (p := ⟨w.heap.size, 3, none⟩) (v := .int .i64 x.share) (by go_simp); have y0 := K6.out.cell (p := ⟨w.heap.size, 4, none⟩) (v := .int .i64 y.holder) (by go_simp); have y1 := K6.out.cell (p := ⟨w.heap.size, 5, none⟩) (v := .int .i64 y.entity) (by go_simp); have y2 := K6.out.cell (p := ⟨w.heap.size, 6, none⟩) (v := .int .i64 y.date) (by go_simp); have y3 := K6.out.cell (p := ⟨w.heap.size, 7, none⟩) (v := .int .i64 y.share) (by go_simp); have hzx := World.block_lt_of_cell? _ _ x0) | (go_at_call 15; refine (hawake_any _).mono ?_; rintro e w1 ⟨rfl, hk1⟩; have K1 := Lib.hid hk1; have HH1 := Lib.hid (HH.out.keeps (((Keeps.refl w).alloc _).trans hk1)); clear hk1; have x0 := K1.out.cell (p := ⟨w.heap.size, 0, none⟩) (v := .int .i64 x.holder) (by go_simp); have x1 := K1.out.cell (p := ⟨w.heap.size, 1, none⟩) (v := .int .i64 x.entity) (by go_simp); have x2 := K1.out.cell (p := ⟨w.heap.size, 2, none⟩) (v := .int .i64 x.date) (by go_simp); have x3 := K1.out.cell (p := ⟨w.heap.size, 3, none⟩) (v := .int .i64 x.share) (by go_simp); have y0 := K1.out.cell (p := ⟨w.heap.size, 4, none⟩) (v := .int .i64 y.holder) (by go_simp); have y1 := K1.out.cell (p := ⟨w.heap.size, 5, none⟩) (v := .int .i64 y.entity) (by go_simp); have y2 := K1.out.cell (p := ⟨w.heap.size, 6, none⟩) (v := .int .i64 y.date) (by go_simp); have y3 := K1.out.cell (p := ⟨w.heap.size, 7, none⟩) (v := .int .i64 y.share) (by go_simp); have hzx := World.block_lt_of_cell? _ _ x0))
      go_ret
      exact ⟨rfl, ((Keeps.refl w).alloc _).trans K6.out⟩
  · have e1 : decide ((30 : Int) < (l.length : Int)) = true := decide_eq_true (by omega)
    go_enter Try.func7, Try.ntmps7
    go_wp2_with (go_at_call 15; refine (hawake_any _).mono ?_; rintro e w1 ⟨rfl, hk1⟩; have K1 := Lib.hid hk1; have HH1 := Lib.hid (HH.out.keeps (((Keeps.refl w).alloc _).trans hk1)); clear hk1; have x0 := K1.out.cell (p := ⟨w.heap.size, 0, none⟩) (v := .int .i64 x.holder) (by go_simp); have x1 := K1.out.cell (p := ⟨w.heap.size, 1, none⟩) (v := .int .i64 x.entity) (by go_simp); have x2 := K1.out.cell (p := ⟨w.heap.size, 2, none⟩) (v := .int .i64 x.date) (by go_simp); have x3 := K1.out.cell (p := ⟨w.heap.size, 3, none⟩) (v := .int .i64 x.share) (by go_simp); have y0 := K1.out.cell (p := ⟨w.heap.size, 4, none⟩) (v := .int .i64 y.holder) (by go_simp); have y1 := K1.out.cell (p := ⟨w.heap.size, 5, none⟩) (v := .int .i64 y.entity) (by go_simp); have y2 := K1.out.cell (p := ⟨w.heap.size, 6, none⟩) (v := .int .i64 y.date) (by go_simp); have y3 := K1.out.cell (p := ⟨w.heap.size, 7, none⟩) (v := .int .i64 y.share) (by go_simp); have hzx := World.block_lt_of_cell? _ _ x0)
    go_ret
    exact ⟨rfl, ((Keeps.refl w).alloc _).trans K1.out⟩
end Go.Proofs.Ytmlpdpacefnngaa
