/- The reference's Set of holdings: the walk. -/
import Derived.Test.YtkpdimbblcmnaaaKSet
import Derived.Test.YtkpdimbblcmnaaaHolRVal
import Derived.Test.YtkpdimbblcmnaaaKBase
namespace Go.Proofs.Ytkpdimbblcmnaaa
open Go.RowKit
set_option linter.unusedSimpArgs false
set_option linter.unusedVariables false

set_option maxRecDepth 100000 in
set_option maxHeartbeats 4000000 in
theorem rset_any (n : Int) (ao : Option Addr) (l : List Hol) (cap b o : Nat) (h : Hol) (w : World) (H : Hols w ao l cap b o) (hlen : l.length ≤ 900) :
    Calls Try.prog 30 #[.int .i64 n, .slice ao l.length cap, .agg #[.int .i64 h.holder, .int .i64 h.entity, .int .i64 h.date, .int .i64 h.share]] w (OutHol w (setH n l h)) := by
  have hcap := Sl.cap H
  have hle := Sl.le H
  have HH := Lib.hid H
  have H1C := Lib.hid (ones_hol l)
  have hlen : l.length ≤ 1000 := by omega
  obtain ⟨vl, hvl⟩ : ∃ vl, hvalidB n l = vl := ⟨_, rfl⟩
  obtain ⟨ph, hph⟩ : ∃ ph, properB n h = ph := ⟨_, rfl⟩
  have HV1 : Hid (∀ W, Hols W ao l cap b o → Calls Try.prog 39 #[.int .i64 n, .slice ao l.length cap] W fun e w' => e = .returned (.bool vl) ∧ Keeps W w') := Lib.hid (fun W hH => by have := hrvalid_any n ao l cap b o W hH hlen; rw [hvl] at this; exact this)
  have HP : Hid (∀ W, Calls Try.prog 41 #[.int .i64 n, .agg #[.int .i64 h.holder, .int .i64 h.entity, .int .i64 h.date, .int .i64 h.share]] W fun e w' => e = .returned (.bool ph) ∧ Keeps W w') := Lib.hid (fun W => by have := rproperH_any n h W; rw [hph] at this; exact this)
  clear H
  cases vl with
  | false =>
    have HQ := Lib.hid (setH_1 (h := h) hvl)
    clear hvl hph
    go_enter Try.func30, Try.ntmps30
    go_wp2_with (go_at_call 39; (with_reducible refine (HV1.out _ (HH.out.keeps ((Keeps.refl w).alloc _))).mono ?_); rintro e1 w1 ⟨rfl, hk1⟩; have K1 := Lib.hid hk1; have x0 := hk1.cell (p := ⟨w.heap.size, 0, none⟩) (v := .int .i64 h.holder) (by go_simp); have x1 := hk1.cell (p := ⟨w.heap.size, 1, none⟩) (v := .int .i64 h.entity) (by go_simp); have x2 := hk1.cell (p := ⟨w.heap.size, 2, none⟩) (v := .int .i64 h.date) (by go_simp); have x3 := hk1.cell (p := ⟨w.heap.size, 3, none⟩) (v := .int .i64 h.share) (by go_simp); have hzx := World.block_lt_of_cell? _ _ x0; clear hk1)
    go_ret2
    exact OutHol.nil HQ.out (((Keeps.refl w).alloc _).trans K1.out)
  | true =>
    cases ph with
    | false =>
      have HQ := Lib.hid (setH_2 hvl hph)
      clear hvl hph
      go_enter Try.func30, Try.ntmps30
      go_wp2_with (first | (go_at_call 41; (with_reducible refine (HP.out _).mono ?_); rintro e2 w2 ⟨rfl, hk2⟩; have K2 := Lib.hid (K1.out.trans hk2); have HH2 := Lib.hid (HH.out.keeps (((Keeps.refl w).alloc _).trans (K1.out.trans hk2))); clear x0 x1 x2 x3 hzx hk2; have x0 := K2.out.cell (p := ⟨w.heap.size, 0, none⟩) (v := .int .i64 h.holder) (by go_simp); have x1 := K2.out.cell (p := ⟨w.heap.size, 1, none⟩) (v := .int .i64 h.entity) (by go_simp); have x2 := K2.out.cell (p := ⟨w.heap.size, 2, none⟩) (v := .int .i64 h.date) (by go_simp); have x3 := K2.out.cell (p := ⟨w.heap.size, 3, none⟩) (v := .int .i64 h.share) (by go_simp); have hzx := World.block_lt_of_cell? _ _ x0) | (go_at_call 39; (with_reducible refine (HV1.out _ (HH.out.keeps ((Keeps.refl w).alloc _))).mono ?_); rintro e1 w1 ⟨rfl, hk1⟩; have K1 := Lib.hid hk1; have x0 := hk1.cell (p := ⟨w.heap.size, 0, none⟩) (v := .int .i64 h.holder) (by go_simp); have x1 := hk1.cell (p := ⟨w.heap.size, 1, none⟩) (v := .int .i64 h.entity) (by go_simp); have x2 := hk1.cell (p := ⟨w.heap.size, 2, none⟩) (v := .int .i64 h.date) (by go_simp); have x3 := hk1.cell (p := ⟨w.heap.size, 3, none⟩) (v := .int .i64 h.share) (by go_simp); have hzx := World.block_lt_of_cell? _ _ x0; clear hk1))
      go_ret2
      exact OutHol.nil HQ.out (((Keeps.refl w).alloc _).trans K2.out)
    | true =>
      have HT1 := Lib.hid hvl
      have HT2 := Lib.hid hph
      have hl200 := hvalidB_len hvl
      clear hvl hph
      go_enter Try.func30, Try.ntmps30
      go_wp2_with (first | (at_builtin; (refine wpList_app_all elemHol rfl (.tmp 21) (.tmp 22) rfl w2 _ 0 [] rfl w2.heap.size (own_empty (Nat.le_refl _)) (by exact ((Below.refl _ w2).alloc (Nat.le_refl _) _)) (by simp) ao l.length cap b o (l.flatMap Hol.cells) (by rfl) (by exact HH2.out.keeps ((Keeps.refl w2).alloc _)) H1C.out (by omega) (by omega) ?_); intro v5 w5 hown5 hb5 hsz5; rw [Nat.zero_add, List.nil_append] at hown5; have HOWN5 := Lib.hid hown5; obtain ⟨ao3, cap3, b3, rfl, hs3⟩ := Sl.own HOWN5.out; have hk5 : Keeps w2 w5 := hb5; have HK5 := Lib.hid hk5; have hle3 := hs3.le; have hcap3 := hs3.cap; clear hown5 hb5 hsz5 hs3 x0 x1 x2 x3 hzx hk5) | (go_at_call 41; (with_reducible refine (HP.out _).mono ?_); rintro e2 w2 ⟨rfl, hk2⟩; have K2 := Lib.hid (K1.out.trans hk2); have HH2 := Lib.hid (HH.out.keeps (((Keeps.refl w).alloc _).trans (K1.out.trans hk2))); clear x0 x1 x2 x3 hzx hk2; have x0 := K2.out.cell (p := ⟨w.heap.size, 0, none⟩) (v := .int .i64 h.holder) (by go_simp); have x1 := K2.out.cell (p := ⟨w.heap.size, 1, none⟩) (v := .int .i64 h.entity) (by go_simp); have x2 := K2.out.cell (p := ⟨w.heap.size, 2, none⟩) (v := .int .i64 h.date) (by go_simp); have x3 := K2.out.cell (p := ⟨w.heap.size, 3, none⟩) (v := .int .i64 h.share) (by go_simp); have hzx := World.block_lt_of_cell? _ _ x0) | (go_at_call 39; (with_reducible refine (HV1.out _ (HH.out.keeps ((Keeps.refl w).alloc _))).mono ?_); rintro e1 w1 ⟨rfl, hk1⟩; have K1 := Lib.hid hk1; have x0 := hk1.cell (p := ⟨w.heap.size, 0, none⟩) (v := .int .i64 h.holder) (by go_simp); have x1 := hk1.cell (p := ⟨w.heap.size, 1, none⟩) (v := .int .i64 h.entity) (by go_simp); have x2 := hk1.cell (p := ⟨w.heap.size, 2, none⟩) (v := .int .i64 h.date) (by go_simp); have x3 := hk1.cell (p := ⟨w.heap.size, 3, none⟩) (v := .int .i64 h.share) (by go_simp); have hzx := World.block_lt_of_cell? _ _ x0; clear hk1))
      go_loopw [9, 10] (fun vf vi wy => ∃ (k : Nat) (f : Bool), k ≤ l.length ∧ vf = .bool f ∧ vi = .int .i64 k ∧ Hid (f = fnd l h k) ∧ Hid (Keeps w2 wy) ∧ Hid (wy.ownsRow w2.heap.size 46 4 (.slice ao3 l.length cap3) l.length ((curL l h k).flatMap Hol.cells))) (fun _ vi _ => l.length - (intOf vi).toNat)
      case atStart => exact ⟨0, false, Nat.zero_le _, rfl, rfl, Lib.hid (fnd_zero l h).symm, HK5, Lib.hid (by rw [curL_zero]; exact HOWN5.out)⟩
      case round =>
        obtain ⟨k, fd, hk, rfl, rfl, HF, HK, HOWN⟩ := hrel
        by_cases hlt : k < l.length
        · obtain ⟨g, cg, eg, hg1, hg2, hg3⟩ := own_shapeH HOWN.out (by omega)
          simp only [Value.slice.injEq, true_and] at eg
          obtain ⟨eg1, eg2⟩ := eg
          subst eg1 eg2
          obtain ⟨ao9, cap9, b9, e9, hs9⟩ := Sl.own HOWN.out
          simp only [Value.slice.injEq, true_and] at e9
          obtain ⟨e9, e10⟩ := e9
          subst e9 e10
          have ha := hs9.addr (by omega)
          simp only [Option.some.injEq, Addr.mk.injEq] at ha
          obtain ⟨rfl, _⟩ := ha
          have hlt2 : k < (curL l h k).length := by rw [curL_len]; exact hlt
          have HLK : Hid (Hols wr (some ⟨g, 0, none⟩) (curL l h k) cap3 g 0) := Lib.hid (by
            show Sl wr 4 _ (curL l h k).length cap3 g 0 _
            rw [curL_len]
            exact hs9)
          have hix := Sl.at hs9 Try.underlying23 Try.sizeOf46 k hlt
          clear hs9 hg2 hg3
          have HSC : Hid (∀ w', Keeps wr.drew w' → (w'.cell? ⟨g, k * 4, none⟩ = some (.int .i64 l[k].holder) ∧ w'.cell? ⟨g, k * 4 + 1, none⟩ = some (.int .i64 l[k].entity) ∧ w'.cell? ⟨g, k * 4 + 2, none⟩ = some (.int .i64 l[k].date) ∧ w'.cell? ⟨g, k * 4 + 3, none⟩ = some (.int .i64 l[k].share)) ∧ (w'.cell? ⟨w.heap.size, 0, none⟩ = some (.int .i64 h.holder) ∧ w'.cell? ⟨w.heap.size, 1, none⟩ = some (.int .i64 h.entity) ∧ w'.cell? ⟨w.heap.size, 2, none⟩ = some (.int .i64 h.date) ∧ w'.cell? ⟨w.heap.size, 3, none⟩ = some (.int .i64 h.share))) := Lib.hid (fun w' hw => by
            have hL := HLK.out.keeps ((Keeps.refl wr).drew.trans hw)
            have hB := (K2.out.trans HK.out).drew.trans hw
            have z0 := hL.cell Hol.len k hlt2 0 (.int .i64 l[k].holder) (by rw [curL_get hlt]; rfl)
            have z1 := hL.cell Hol.len k hlt2 1 (.int .i64 l[k].entity) (by rw [curL_get hlt]; rfl)
            have z2 := hL.cell Hol.len k hlt2 2 (.int .i64 l[k].date) (by rw [curL_get hlt]; rfl)
            have z3 := hL.cell Hol.len k hlt2 3 (.int .i64 l[k].share) (by rw [curL_get hlt]; rfl)
            simp only [Nat.add_zero, Nat.zero_add] at z0 z1 z2 z3
            have x0 := hB.cell (p := ⟨w.heap.size, 0, none⟩) (v := .int .i64 h.holder) (by go_simp); have x1 := hB.cell (p := ⟨w.heap.size, 1, none⟩) (v := .int .i64 h.entity) (by go_simp); have x2 := hB.cell (p := ⟨w.heap.size, 2, none⟩) (v := .int .i64 h.date) (by go_simp); have x3 := hB.cell (p := ⟨w.heap.size, 3, none⟩) (v := .int .i64 h.share) (by go_simp); have hzx := World.block_lt_of_cell? _ _ x0
            exact ⟨⟨z0, z1, z2, z3⟩, ⟨x0, x1, x2, x3⟩⟩)
          simp only [Nat.add_zero, Nat.zero_add] at hix
          obtain ⟨sm, hsm⟩ : ∃ sm, sameH l[k] h = sm := ⟨_, rfl⟩
          have HX : Hid (∀ W, Calls Try.prog 42 #[.agg #[.int .i64 l[k].holder, .int .i64 l[k].entity, .int .i64 l[k].date, .int .i64 l[k].share], .agg #[.int .i64 h.holder, .int .i64 h.entity, .int .i64 h.date, .int .i64 h.share]] W fun en w' => en = .returned (.bool sm) ∧ Keeps W w') := Lib.hid (fun W => by have := rsame_any l[k] h W; rw [hsm] at this; exact this)
          have HSM := Lib.hid hsm
          clear hsm
          go_wp2_with fail
          refine wp_region_steps (A := ?_) Keeps [some 30, some 31, some 32, some 33, some 34, some 35] [[], [], [0, 1], [2], [], [3, 4]] 6 (by kernel_rfl) (by kernel_rfl) (by kernel_rfl) (by kernel_rfl) (by kernel_rfl) (by kernel_rfl) Keeps.refl (fun _ _ _ => Keeps.trans) ?_ ?_
          rotate_left
          · intro f; simp only [putL, Act.put, List.setIfInBounds_toArray, List.set_cons_zero, List.set_cons_succ, Nat.zero_add, Nat.reduceAdd]; exact rfl
          refine Steps.pure (v := ?_) Keeps.refl rfl (fun f w' hR hV => ⟨?_, ?_⟩) ?_
          rotate_left
          · (rfl)
          · (clear hV; obtain ⟨⟨z0, z1, z2, z3⟩, ⟨x0, x1, x2, x3⟩⟩ := HSC.out _ hR; go_simp; all_goals (try with_reducible rfl))
          refine Steps.pure (v := ?_) Keeps.refl rfl (fun f w' hR hV => ⟨?_, ?_⟩) ?_
          rotate_left
          · (rfl)
          · (clear hV; obtain ⟨⟨z0, z1, z2, z3⟩, ⟨x0, x1, x2, x3⟩⟩ := HSC.out _ hR; go_simp; all_goals (try with_reducible rfl))
          refine Steps.pure (v := ?_) Keeps.refl rfl (fun f w' hR hV => ⟨?_, ?_⟩) ?_
          rotate_left
          · (rfl)
          · (obtain ⟨h0, h1, _⟩ := hV; replace h0 : f 0 = _ := h0; replace h1 : f 1 = _ := h1; obtain ⟨⟨z0, z1, z2, z3⟩, ⟨x0, x1, x2, x3⟩⟩ := HSC.out _ hR; go_simp; all_goals (try with_reducible rfl))
          refine Steps.pure (v := ?_) Keeps.refl rfl (fun f w' hR hV => ⟨?_, ?_⟩) ?_
          rotate_left
          · (rfl)
          · (obtain ⟨h2, _⟩ := hV; replace h2 : f 2 = _ := h2; obtain ⟨⟨z0, z1, z2, z3⟩, ⟨x0, x1, x2, x3⟩⟩ := HSC.out _ hR; go_simp; all_goals (try with_reducible rfl))
          refine Steps.pure (v := ?_) Keeps.refl rfl (fun f w' hR hV => ⟨?_, ?_⟩) ?_
          rotate_left
          · (rfl)
          · (clear hV; obtain ⟨⟨z0, z1, z2, z3⟩, ⟨x0, x1, x2, x3⟩⟩ := HSC.out _ hR; go_simp; all_goals (try with_reducible rfl))
          refine Steps.call (fun _ v => v = .bool sm) rfl (fun _ _ _ _ h => h) (fun f w' hR hV => ⟨?_, ?_⟩) ?_
          · (rfl)
          · (obtain ⟨h3, h4, _⟩ := hV; replace h3 : f 3 = _ := h3; replace h4 : f 4 = _ := h4; obtain ⟨⟨z0, z1, z2, z3⟩, ⟨x0, x1, x2, x3⟩⟩ := HSC.out _ hR; go_simp; go_at_call 42; refine (HX.out _).mono ?_; rintro e w2 ⟨rfl, hk2⟩; exact StepPost.of _ rfl rfl hk2)
          all_goals (refine Steps.done [5] (by kernel_rfl) rfl (fun f wq hR hV => ?_); obtain ⟨h5, _⟩ := hV; replace h5 : f 5 = _ := h5; simp only [h5])
          have HKQ := Lib.hid (HK.out.drew.trans hR)
          have HOWNQ := Lib.hid (own_keepsH HOWN.out ((Keeps.refl wr).drew.trans hR))
          obtain ⟨⟨z0, z1, z2, z3⟩, ⟨x0, x1, x2, x3⟩⟩ := HSC.out _ hR
          clear hR
          cases sm with
          | false =>
            have HE := Lib.hid (curL_no hlt HSM.out)
            go_wp2_with fail
            go_roundw
            case rel => exact ⟨k + 1, fd, by omega, rfl, by go_num, Lib.hid (HF.out.trans HE.out.2.symm), HKQ, Lib.hid (by rw [HE.out.1]; exact HOWNQ.out)⟩
            case measure => simp [intOf]; omega
          | true =>
            have HE := Lib.hid (curL_yes HT1.out hlt HSM.out)
            obtain ⟨g2, cg2, eg2, _, hg5, hg3⟩ := own_shapeH HOWNQ.out (by omega)
            simp only [Value.slice.injEq, true_and, Option.some.injEq, Addr.mk.injEq, and_true] at eg2
            obtain ⟨rfl, rfl⟩ := eg2
            have f0 := hg3 (k * 4)
            have f1 := hg3 (k * 4 + 1)
            have f2 := hg3 (k * 4 + 2)
            have f3 := hg3 (k * 4 + 3)
            have hws := K2.out.size
            have hgx : g ≠ w.heap.size := by simp at hws; omega
            clear hg3
            go_wp2_with fail
            go_roundw
            case rel => exact ⟨k + 1, true, by omega, rfl, by go_num, Lib.hid HE.out.2.symm, Lib.hid ((((HKQ.out.setCell (p := ⟨g, k * 4, none⟩) hg1 _).setCell (p := ⟨g, k * 4 + 1, none⟩) hg1 _).setCell (p := ⟨g, k * 4 + 2, none⟩) hg1 _).setCell (p := ⟨g, k * 4 + 3, none⟩) hg1 _), Lib.hid (by
              have h4 := own_setH (own_setH (own_setH (own_setH HOWNQ.out (k * 4) (.int .i64 h.holder)) (k * 4 + 1) (.int .i64 h.entity)) (k * 4 + 2) (.int .i64 h.date)) (k * 4 + 3) (.int .i64 h.share)
              rw [← flat_setH (curL l h k) k hlt2 h, ← HE.out.1] at h4
              exact h4)⟩
            case measure => simp [intOf]; omega
        · obtain rfl : k = l.length := by omega
          have x0 := (K2.out.trans HK.out).cell (p := ⟨w.heap.size, 0, none⟩) (v := .int .i64 h.holder) (by go_simp); have x1 := (K2.out.trans HK.out).cell (p := ⟨w.heap.size, 1, none⟩) (v := .int .i64 h.entity) (by go_simp); have x2 := (K2.out.trans HK.out).cell (p := ⟨w.heap.size, 2, none⟩) (v := .int .i64 h.date) (by go_simp); have x3 := (K2.out.trans HK.out).cell (p := ⟨w.heap.size, 3, none⟩) (v := .int .i64 h.share) (by go_simp); have hzx := World.block_lt_of_cell? _ _ x0
          obtain ⟨vl2, hvl2⟩ : ∃ v, hvalidB n (putH l h) = v := ⟨_, rfl⟩
          cases hidx : idxH l h with
          | none =>
            have hput : putH l h = l ++ [h] := by unfold putH; rw [hidx]
            have HPUT := Lib.hid hput
            have hLEN : (putH l h).length = l.length + 1 := by rw [hput]; simp
            have HLEN := Lib.hid hLEN
            have hv2 := fun W ao c b o (hh : Hols W ao (putH l h) c b o) => hrvalid_any n ao (putH l h) c b o W hh (by rw [HLEN.out]; omega)
            rw [hLEN] at hv2
            have HV2 : Hid (∀ W ao c b o, Hols W ao (putH l h) c b o → Calls Try.prog 39 #[.int .i64 n, .slice ao (l.length + 1) c] W fun e w' => e = .returned (.bool vl2) ∧ Keeps W w') := Lib.hid (by intro W ao c b o hh; have := hv2 W ao c b o hh; rw [hvl2] at this; exact this)
            have hnot : ¬ 200 < l.length + 1 → ¬ 200 < (putH l h).length := by rw [hLEN]; exact id
            have hyes : 200 < l.length + 1 → 200 < (putH l h).length := by rw [hLEN]; exact id
            obtain ⟨hc1, hc2⟩ := curL_none hidx l.length
            obtain rfl : fd = false := HF.out.trans hc2
            have hownx := HOWN.out
            rw [hc1] at hownx
            have HOWNX := Lib.hid hownx
            clear hidx hput hv2 hLEN hownx hc1 hc2
            by_cases h200 : 200 < l.length + 1
            · have HQ := Lib.hid (setH_3 HT1.out HT2.out (hyes h200))
              have hl2 : decide ((200 : Int) < ((l.length + 1 : Nat) : Int)) = true := decide_eq_true (by omega)
              clear hvl2 hnot hyes
              go_wp2_with (at_builtin; (refine wpList_app elemHol rfl _ _ rfl w2 _ _ _ rfl w2.heap.size HOWNX.out HK.out HK.out.size [.int .i64 h.holder, .int .i64 h.entity, .int .i64 h.date, .int .i64 h.share] 1 rfl rfl (by intro u hu; simp at hu; rcases hu with rfl | rfl | rfl | rfl <;> rfl) (by omega) (by omega) ?_); intro v5 w5 hown5 hb5 hsz5; obtain ⟨ao5, cap5, b5, rfl, hs5⟩ := Sl.own hown5; have K5 : Hid (Keeps (w.alloc (.cells #[.int .i64 h.holder, .int .i64 h.entity, .int .i64 h.date, .int .i64 h.share] 46)) w5) := Lib.hid (K2.out.trans (show Keeps w2 w5 from hb5)); have HSP : Hid (Hols w5 ao5 (putH l h) cap5 b5 0) := Lib.hid (by (show Sl w5 4 ao5 (putH l h).length cap5 b5 0 ((putH l h).flatMap Hol.cells)); rw [HPUT.out, List.length_append, List.flatMap_append]; exact hs5); have hle5 := hs5.le; have hcap5 := hs5.cap; clear hown5 hb5 hsz5 hs5)
              go_ret2
              exact OutHol.nil HQ.out (((Keeps.refl w).alloc _).trans K5.out)
            · have HNOT := Lib.hid (hnot h200)
              have hl2 : decide ((200 : Int) < ((l.length + 1 : Nat) : Int)) = false := decide_eq_false (by omega)
              cases vl2 with
              | false =>
                have HQ := Lib.hid (setH_4 HT1.out HT2.out HNOT.out hvl2)
                clear hvl2 hnot hyes
                go_wp2_with (first | (go_at_call 39; (with_reducible refine (HV2.out _ _ _ _ _ HSP.out).mono ?_); rintro e6 w6 ⟨rfl, hk6⟩; have K6 := Lib.hid (K5.out.trans hk6); have HSQ := Lib.hid (HSP.out.keeps hk6); clear hk6) | (at_builtin; (refine wpList_app elemHol rfl _ _ rfl w2 _ _ _ rfl w2.heap.size HOWNX.out HK.out HK.out.size [.int .i64 h.holder, .int .i64 h.entity, .int .i64 h.date, .int .i64 h.share] 1 rfl rfl (by intro u hu; simp at hu; rcases hu with rfl | rfl | rfl | rfl <;> rfl) (by omega) (by omega) ?_); intro v5 w5 hown5 hb5 hsz5; obtain ⟨ao5, cap5, b5, rfl, hs5⟩ := Sl.own hown5; have K5 : Hid (Keeps (w.alloc (.cells #[.int .i64 h.holder, .int .i64 h.entity, .int .i64 h.date, .int .i64 h.share] 46)) w5) := Lib.hid (K2.out.trans (show Keeps w2 w5 from hb5)); have HSP : Hid (Hols w5 ao5 (putH l h) cap5 b5 0) := Lib.hid (by (show Sl w5 4 ao5 (putH l h).length cap5 b5 0 ((putH l h).flatMap Hol.cells)); rw [HPUT.out, List.length_append, List.flatMap_append]; exact hs5); have hle5 := hs5.le; have hcap5 := hs5.cap; clear hown5 hb5 hsz5 hs5))
                go_ret2
                exact OutHol.nil HQ.out (((Keeps.refl w).alloc _).trans K6.out)
              | true =>
                have HQ := Lib.hid (setH_5 HT1.out HT2.out HNOT.out hvl2)
                clear hvl2 hnot hyes
                go_wp2_with (first | (go_at_call 39; (with_reducible refine (HV2.out _ _ _ _ _ HSP.out).mono ?_); rintro e6 w6 ⟨rfl, hk6⟩; have K6 := Lib.hid (K5.out.trans hk6); have HSQ := Lib.hid (HSP.out.keeps hk6); clear hk6) | (at_builtin; (refine wpList_app elemHol rfl _ _ rfl w2 _ _ _ rfl w2.heap.size HOWNX.out HK.out HK.out.size [.int .i64 h.holder, .int .i64 h.entity, .int .i64 h.date, .int .i64 h.share] 1 rfl rfl (by intro u hu; simp at hu; rcases hu with rfl | rfl | rfl | rfl <;> rfl) (by omega) (by omega) ?_); intro v5 w5 hown5 hb5 hsz5; obtain ⟨ao5, cap5, b5, rfl, hs5⟩ := Sl.own hown5; have K5 : Hid (Keeps (w.alloc (.cells #[.int .i64 h.holder, .int .i64 h.entity, .int .i64 h.date, .int .i64 h.share] 46)) w5) := Lib.hid (K2.out.trans (show Keeps w2 w5 from hb5)); have HSP : Hid (Hols w5 ao5 (putH l h) cap5 b5 0) := Lib.hid (by (show Sl w5 4 ao5 (putH l h).length cap5 b5 0 ((putH l h).flatMap Hol.cells)); rw [HPUT.out, List.length_append, List.flatMap_append]; exact hs5); have hle5 := hs5.le; have hcap5 := hs5.cap; clear hown5 hb5 hsz5 hs5))
                go_ret2
                rw [HQ.out]
                refine ⟨ao5, cap5, b5, 0, ?_, HSQ.out, ((Keeps.refl w).alloc _).trans K6.out⟩
                show _ = Ending.returned (.tuple #[.slice ao5 (putH l h).length cap5, .int .i64 0])
                rw [HLEN.out]
                rfl
          | some i =>
            obtain ⟨hc1, hc2⟩ := curL_some hidx
            obtain rfl : fd = true := HF.out.trans hc2
            obtain ⟨hil, _⟩ := idxH_spec hidx
            have hLEN : (putH l h).length = l.length := by rw [← hc1, curL_len]
            have HLEN := Lib.hid hLEN
            have hv2 := fun W ao c b o (hh : Hols W ao (putH l h) c b o) => hrvalid_any n ao (putH l h) c b o W hh (by rw [HLEN.out]; omega)
            rw [hLEN] at hv2
            have HV2 : Hid (∀ W ao c b o, Hols W ao (putH l h) c b o → Calls Try.prog 39 #[.int .i64 n, .slice ao l.length c] W fun e w' => e = .returned (.bool vl2) ∧ Keeps W w') := Lib.hid (by intro W ao c b o hh; have := hv2 W ao c b o hh; rw [hvl2] at this; exact this)
            have HNOT : Hid (¬ 200 < (putH l h).length) := Lib.hid (by rw [hLEN]; omega)
            have hownx := HOWN.out
            rw [hc1] at hownx
            obtain ⟨ao9, cap9, b9, e9, hs9⟩ := Sl.own hownx
            simp only [Value.slice.injEq, true_and] at e9
            obtain ⟨e9, e10⟩ := e9
            subst e9 e10
            have HSP : Hid (Hols wr ao3 (putH l h) cap3 b9 0) := Lib.hid (by
              show Sl wr 4 _ (putH l h).length cap3 b9 0 _
              rw [hLEN]
              exact hs9)
            have K5 := Lib.hid (K2.out.trans HK.out)
            have hl2 : decide ((200 : Int) < (l.length : Int)) = false := decide_eq_false (by omega)
            clear hidx hv2 hLEN hownx hc1 hc2 hs9
            cases vl2 with
            | false =>
              have HQ := Lib.hid (setH_4 HT1.out HT2.out HNOT.out hvl2)
              clear hvl2
              go_wp2_with (go_at_call 39; (with_reducible refine (HV2.out _ _ _ _ _ HSP.out).mono ?_); rintro e6 w6 ⟨rfl, hk6⟩; have K6 := Lib.hid (K5.out.trans hk6); have HSQ := Lib.hid (HSP.out.keeps hk6); clear hk6)
              go_ret2
              exact OutHol.nil HQ.out (((Keeps.refl w).alloc _).trans K6.out)
            | true =>
              have HQ := Lib.hid (setH_5 HT1.out HT2.out HNOT.out hvl2)
              clear hvl2
              go_wp2_with (go_at_call 39; (with_reducible refine (HV2.out _ _ _ _ _ HSP.out).mono ?_); rintro e6 w6 ⟨rfl, hk6⟩; have K6 := Lib.hid (K5.out.trans hk6); have HSQ := Lib.hid (HSP.out.keeps hk6); clear hk6)
              go_ret2
              rw [HQ.out]
              refine ⟨ao3, cap3, b9, 0, ?_, HSQ.out, ((Keeps.refl w).alloc _).trans K6.out⟩
              show _ = Ending.returned (.tuple #[.slice ao3 (putH l h).length cap3, .int .i64 0])
              rw [HLEN.out]
              rfl
end Go.Proofs.Ytkpdimbblcmnaaa
