/- holding.Set: the walk. -/
import Derived.Test.YtmlpdpacefnngaaHolSetP
namespace Go.Proofs.Ytmlpdpacefnngaa
open Go.RowKit
set_option linter.unusedSimpArgs false
set_option linter.unusedVariables false

set_option maxRecDepth 100000 in
set_option maxHeartbeats 4000000 in
theorem set_any (n : Int) (ao : Option Addr) (l : List Hol) (cap b o : Nat) (h : Hol) (w : World) (H : Hols w ao l cap b o) (hlen : l.length ≤ 900) (hok : ∀ x ∈ l, x.Ok) (hho : h.Ok) :
    Calls Try.prog 25 #[.int .i64 n, .slice ao l.length cap, .agg #[.int .i64 h.holder, .int .i64 h.entity, .int .i64 h.date, .int .i64 h.share]] w (OutHol w (setH n l h)) := by
  have hcap := Sl.cap H
  have hle := Sl.le H
  have HH := Lib.hid H
  have HO := Lib.hid hok
  have HHO := Lib.hid hho
  have hlen : l.length ≤ 1000 := by omega
  obtain ⟨vl, hvl⟩ : ∃ vl, hvalidB n l = vl := ⟨_, rfl⟩
  obtain ⟨ph, hph⟩ : ∃ ph, properB n h = ph := ⟨_, rfl⟩
  have HV1 : Hid (∀ W, Hols W ao l cap b o → Calls Try.prog 16 #[.int .i64 n, .slice ao l.length cap] W fun e w' => e = .returned (.bool vl) ∧ Keeps W w') := Lib.hid (fun W hH => by have := hvalid_any n ao l cap b o W hH hlen hok; rw [hvl] at this; exact this)
  have HP : Hid (∀ W, Calls Try.prog 41 #[.int .i64 n, .agg #[.int .i64 h.holder, .int .i64 h.entity, .int .i64 h.date, .int .i64 h.share]] W fun e w' => e = .returned (.bool ph) ∧ Keeps W w') := Lib.hid (fun W => by have := properH_any n h W; rw [hph] at this; exact this)
  clear H hok hho
  cases vl with
  | false =>
    have HQ := Lib.hid (setH_1 (h := h) hvl)
    clear hvl hph
    go_enter Try.func25, Try.ntmps25
    go_wp2_with (go_at_call 16; (with_reducible refine (HV1.out _ (HH.out.keeps ((Keeps.refl w).alloc _))).mono ?_); rintro e1 w1 ⟨rfl, hk1⟩; have K1 := Lib.hid hk1; have x0 := hk1.cell (p := ⟨w.heap.size, 0, none⟩) (v := .int .i64 h.holder) (by go_simp); have x1 := hk1.cell (p := ⟨w.heap.size, 1, none⟩) (v := .int .i64 h.entity) (by go_simp); have x2 := hk1.cell (p := ⟨w.heap.size, 2, none⟩) (v := .int .i64 h.date) (by go_simp); have x3 := hk1.cell (p := ⟨w.heap.size, 3, none⟩) (v := .int .i64 h.share) (by go_simp); have hzx := World.block_lt_of_cell? _ _ x0; clear hk1)
    go_ret2
    exact OutHol.nil HQ.out (((Keeps.refl w).alloc _).trans K1.out)
  | true =>
    cases ph with
    | false =>
      have HQ := Lib.hid (setH_2 hvl hph)
      clear hvl hph
      go_enter Try.func25, Try.ntmps25
      go_wp2_with (first | (go_at_call 41; (with_reducible refine (HP.out _).mono ?_); rintro e2 w2 ⟨rfl, hk2⟩; have K2 := Lib.hid (K1.out.trans hk2); clear x0 x1 x2 x3 hzx hk2; have x0 := K2.out.cell (p := ⟨w.heap.size, 0, none⟩) (v := .int .i64 h.holder) (by go_simp); have x1 := K2.out.cell (p := ⟨w.heap.size, 1, none⟩) (v := .int .i64 h.entity) (by go_simp); have x2 := K2.out.cell (p := ⟨w.heap.size, 2, none⟩) (v := .int .i64 h.date) (by go_simp); have x3 := K2.out.cell (p := ⟨w.heap.size, 3, none⟩) (v := .int .i64 h.share) (by go_simp); have hzx := World.block_lt_of_cell? _ _ x0) | (go_at_call 16; (with_reducible refine (HV1.out _ (HH.out.keeps ((Keeps.refl w).alloc _))).mono ?_); rintro e1 w1 ⟨rfl, hk1⟩; have K1 := Lib.hid hk1; have x0 := hk1.cell (p := ⟨w.heap.size, 0, none⟩) (v := .int .i64 h.holder) (by go_simp); have x1 := hk1.cell (p := ⟨w.heap.size, 1, none⟩) (v := .int .i64 h.entity) (by go_simp); have x2 := hk1.cell (p := ⟨w.heap.size, 2, none⟩) (v := .int .i64 h.date) (by go_simp); have x3 := hk1.cell (p := ⟨w.heap.size, 3, none⟩) (v := .int .i64 h.share) (by go_simp); have hzx := World.block_lt_of_cell? _ _ x0; clear hk1))
      go_ret2
      exact OutHol.nil HQ.out (((Keeps.refl w).alloc _).trans K2.out)
    | true =>
      have HT1 := Lib.hid hvl
      have HT2 := Lib.hid hph
      have hl200 := hvalidB_len hvl
      clear hvl hph
      cases hidx : idxH l h with
      | none =>
        have HIDX : Hid (idxV (idxH l h) = -1) := Lib.hid (by rw [hidx]; rfl)
        have hput : putH l h = l ++ [h] := by unfold putH; rw [hidx]
        have HPUT := Lib.hid hput
        have hLEN : (putH l h).length = l.length + 1 := by rw [hput]; simp
        have HLEN := Lib.hid hLEN
        have hv2 := fun W ao c b o (hh : Hols W ao (putH l h) c b o) => hvalid_any n ao (putH l h) c b o W hh (by rw [HLEN.out]; omega) (putH_ok HO.out HHO.out)
        rw [hLEN] at hv2
        obtain ⟨vl2, hvl2⟩ : ∃ v, hvalidB n (putH l h) = v := ⟨_, rfl⟩
        have HV2 : Hid (∀ W ao c b o, Hols W ao (putH l h) c b o → Calls Try.prog 16 #[.int .i64 n, .slice ao (l.length + 1) c] W fun e w' => e = .returned (.bool vl2) ∧ Keeps W w') := Lib.hid (by intro W ao c b o hh; have := hv2 W ao c b o hh; rw [hvl2] at this; exact this)
        have hnot : ¬ 200 < l.length + 1 → ¬ 200 < (putH l h).length := by rw [hLEN]; exact id
        have hyes : 200 < l.length + 1 → 200 < (putH l h).length := by rw [hLEN]; exact id
        clear hidx hput hv2 hLEN
        by_cases h200 : 200 < l.length + 1
        · have HQ := Lib.hid (setH_3 HT1.out HT2.out (hyes h200))
          have hl2 : decide ((200 : Int) < ((l.length + 1 : Nat) : Int)) = true := decide_eq_true (by omega)
          clear hvl2 hnot hyes
          go_enter Try.func25, Try.ntmps25
          go_wp2_with (first | (go_at_call 49; (with_reducible refine (idx_any h w.heap.size ao3 l cap3 b3 0 _ HS3.out x0 x1 x2).mono ?_); rintro e4 w4 ⟨rfl, hk4⟩; have K4 := Lib.hid (K3.out.trans hk4); have HK24 := Lib.hid (HK23.out.trans hk4); have HOWN4 := Lib.hid (own_keepsH HOWN.out hk4); have HS4 := Lib.hid (HS3.out.keeps hk4); rw [HIDX.out]; clear x0 x1 x2 x3 hzx hk4; have x0 := K4.out.cell (p := ⟨w.heap.size, 0, none⟩) (v := .int .i64 h.holder) (by go_simp); have x1 := K4.out.cell (p := ⟨w.heap.size, 1, none⟩) (v := .int .i64 h.entity) (by go_simp); have x2 := K4.out.cell (p := ⟨w.heap.size, 2, none⟩) (v := .int .i64 h.date) (by go_simp); have x3 := K4.out.cell (p := ⟨w.heap.size, 3, none⟩) (v := .int .i64 h.share) (by go_simp); have hzx := World.block_lt_of_cell? _ _ x0) | (go_at_call 48; (with_reducible refine (clone_any ao l cap b o _ (HH.out.keeps (((Keeps.refl w).alloc _).trans K2.out)) hlen).mono ?_); rintro e3 w3 ⟨v3, rfl, hown3, hk3⟩; have K3 := Lib.hid (K2.out.trans hk3); have HK23 := Lib.hid hk3; obtain ⟨ao3, cap3, b3, rfl, hs3⟩ := Recs.own hown3; have HOWN := Lib.hid hown3; have HS3 := Lib.hid hs3; have hle3 := Sl.le hs3; have hcap3 := Sl.cap hs3; clear x0 x1 x2 x3 hzx hk3 hown3 hs3; have x0 := K3.out.cell (p := ⟨w.heap.size, 0, none⟩) (v := .int .i64 h.holder) (by go_simp); have x1 := K3.out.cell (p := ⟨w.heap.size, 1, none⟩) (v := .int .i64 h.entity) (by go_simp); have x2 := K3.out.cell (p := ⟨w.heap.size, 2, none⟩) (v := .int .i64 h.date) (by go_simp); have x3 := K3.out.cell (p := ⟨w.heap.size, 3, none⟩) (v := .int .i64 h.share) (by go_simp); have hzx := World.block_lt_of_cell? _ _ x0) | (go_at_call 41; (with_reducible refine (HP.out _).mono ?_); rintro e2 w2 ⟨rfl, hk2⟩; have K2 := Lib.hid (K1.out.trans hk2); clear x0 x1 x2 x3 hzx hk2; have x0 := K2.out.cell (p := ⟨w.heap.size, 0, none⟩) (v := .int .i64 h.holder) (by go_simp); have x1 := K2.out.cell (p := ⟨w.heap.size, 1, none⟩) (v := .int .i64 h.entity) (by go_simp); have x2 := K2.out.cell (p := ⟨w.heap.size, 2, none⟩) (v := .int .i64 h.date) (by go_simp); have x3 := K2.out.cell (p := ⟨w.heap.size, 3, none⟩) (v := .int .i64 h.share) (by go_simp); have hzx := World.block_lt_of_cell? _ _ x0) | (go_at_call 16; (with_reducible refine (HV1.out _ (HH.out.keeps ((Keeps.refl w).alloc _))).mono ?_); rintro e1 w1 ⟨rfl, hk1⟩; have K1 := Lib.hid hk1; have x0 := hk1.cell (p := ⟨w.heap.size, 0, none⟩) (v := .int .i64 h.holder) (by go_simp); have x1 := hk1.cell (p := ⟨w.heap.size, 1, none⟩) (v := .int .i64 h.entity) (by go_simp); have x2 := hk1.cell (p := ⟨w.heap.size, 2, none⟩) (v := .int .i64 h.date) (by go_simp); have x3 := hk1.cell (p := ⟨w.heap.size, 3, none⟩) (v := .int .i64 h.share) (by go_simp); have hzx := World.block_lt_of_cell? _ _ x0; clear hk1) | (at_builtin; (refine wpList_app elemHol rfl _ _ rfl w2 _ _ _ rfl w2.heap.size HOWN4.out HK24.out HK24.out.size [.int .i64 h.holder, .int .i64 h.entity, .int .i64 h.date, .int .i64 h.share] 1 rfl rfl (by intro u hu; simp at hu; rcases hu with rfl | rfl | rfl | rfl <;> rfl) (by omega) (by omega) ?_); intro v5 w5 hown5 hb5 hsz5; obtain ⟨ao5, cap5, b5, rfl, hs5⟩ := Sl.own hown5; have K5 : Hid (Keeps (w.alloc (.cells #[.int .i64 h.holder, .int .i64 h.entity, .int .i64 h.date, .int .i64 h.share] 27)) w5) := Lib.hid (K2.out.trans (show Keeps w2 w5 from hb5)); have HSP : Hid (Hols w5 ao5 (putH l h) cap5 b5 0) := Lib.hid (by (show Sl w5 4 ao5 (putH l h).length cap5 b5 0 ((putH l h).flatMap Hol.cells)); rw [HPUT.out, List.length_append, List.flatMap_append]; exact hs5); have hle5 := hs5.le; have hcap5 := hs5.cap; clear hown5 hb5 hsz5 hs5))
          go_ret2
          exact OutHol.nil HQ.out (((Keeps.refl w).alloc _).trans K5.out)
        · have HNOT := Lib.hid (hnot h200)
          have hl2 : decide ((200 : Int) < ((l.length + 1 : Nat) : Int)) = false := decide_eq_false (by omega)
          cases vl2 with
          | false =>
            have HQ := Lib.hid (setH_4 HT1.out HT2.out HNOT.out hvl2)
            clear hvl2 hnot hyes
            go_enter Try.func25, Try.ntmps25
            go_wp2_with (first | (go_at_call 16; (with_reducible refine (HV2.out _ _ _ _ _ HSP.out).mono ?_); rintro e6 w6 ⟨rfl, hk6⟩; have K6 := Lib.hid (K5.out.trans hk6); have HSQ := Lib.hid (HSP.out.keeps hk6); clear hk6) | (go_at_call 49; (with_reducible refine (idx_any h w.heap.size ao3 l cap3 b3 0 _ HS3.out x0 x1 x2).mono ?_); rintro e4 w4 ⟨rfl, hk4⟩; have K4 := Lib.hid (K3.out.trans hk4); have HK24 := Lib.hid (HK23.out.trans hk4); have HOWN4 := Lib.hid (own_keepsH HOWN.out hk4); have HS4 := Lib.hid (HS3.out.keeps hk4); rw [HIDX.out]; clear x0 x1 x2 x3 hzx hk4; have x0 := K4.out.cell (p := ⟨w.heap.size, 0, none⟩) (v := .int .i64 h.holder) (by go_simp); have x1 := K4.out.cell (p := ⟨w.heap.size, 1, none⟩) (v := .int .i64 h.entity) (by go_simp); have x2 := K4.out.cell (p := ⟨w.heap.size, 2, none⟩) (v := .int .i64 h.date) (by go_simp); have x3 := K4.out.cell (p := ⟨w.heap.size, 3, none⟩) (v := .int .i64 h.share) (by go_simp); have hzx := World.block_lt_of_cell? _ _ x0) | (go_at_call 48; (with_reducible refine (clone_any ao l cap b o _ (HH.out.keeps (((Keeps.refl w).alloc _).trans K2.out)) hlen).mono ?_); rintro e3 w3 ⟨v3, rfl, hown3, hk3⟩; have K3 := Lib.hid (K2.out.trans hk3); have HK23 := Lib.hid hk3; obtain ⟨ao3, cap3, b3, rfl, hs3⟩ := Recs.own hown3; have HOWN := Lib.hid hown3; have HS3 := Lib.hid hs3; have hle3 := Sl.le hs3; have hcap3 := Sl.cap hs3; clear x0 x1 x2 x3 hzx hk3 hown3 hs3; have x0 := K3.out.cell (p := ⟨w.heap.size, 0, none⟩) (v := .int .i64 h.holder) (by go_simp); have x1 := K3.out.cell (p := ⟨w.heap.size, 1, none⟩) (v := .int .i64 h.entity) (by go_simp); have x2 := K3.out.cell (p := ⟨w.heap.size, 2, none⟩) (v := .int .i64 h.date) (by go_simp); have x3 := K3.out.cell (p := ⟨w.heap.size, 3, none⟩) (v := .int .i64 h.share) (by go_simp); have hzx := World.block_lt_of_cell? _ _ x0) | (go_at_call 41; (with_reducible refine (HP.out _).mono ?_); rintro e2 w2 ⟨rfl, hk2⟩; have K2 := Lib.hid (K1.out.trans hk2); clear x0 x1 x2 x3 hzx hk2; have x0 := K2.out.cell (p := ⟨w.heap.size, 0, none⟩) (v := .int .i64 h.holder) (by go_simp); have x1 := K2.out.cell (p := ⟨w.heap.size, 1, none⟩) (v := .int .i64 h.entity) (by go_simp); have x2 := K2.out.cell (p := ⟨w.heap.size, 2, none⟩) (v := .int .i64 h.date) (by go_simp); have x3 := K2.out.cell (p := ⟨w.heap.size, 3, none⟩) (v := .int .i64 h.share) (by go_simp); have hzx := World.block_lt_of_cell? _ _ x0) | (go_at_call 16; (with_reducible refine (HV1.out _ (HH.out.keeps ((Keeps.refl w).alloc _))).mono ?_); rintro e1 w1 ⟨rfl, hk1⟩; have K1 := Lib.hid hk1; have x0 := hk1.cell (p := ⟨w.heap.size, 0, none⟩) (v := .int .i64 h.holder) (by go_simp); have x1 := hk1.cell (p := ⟨w.heap.size, 1, none⟩) (v := .int .i64 h.entity) (by go_simp); have x2 := hk1.cell (p := ⟨w.heap.size, 2, none⟩) (v := .int .i64 h.date) (by go_simp); have x3 := hk1.cell (p := ⟨w.heap.size, 3, none⟩) (v := .int .i64 h.share) (by go_simp); have hzx := World.block_lt_of_cell? _ _ x0; clear hk1) | (at_builtin; (refine wpList_app elemHol rfl _ _ rfl w2 _ _ _ rfl w2.heap.size HOWN4.out HK24.out HK24.out.size [.int .i64 h.holder, .int .i64 h.entity, .int .i64 h.date, .int .i64 h.share] 1 rfl rfl (by intro u hu; simp at hu; rcases hu with rfl | rfl | rfl | rfl <;> rfl) (by omega) (by omega) ?_); intro v5 w5 hown5 hb5 hsz5; obtain ⟨ao5, cap5, b5, rfl, hs5⟩ := Sl.own hown5; have K5 : Hid (Keeps (w.alloc (.cells #[.int .i64 h.holder, .int .i64 h.entity, .int .i64 h.date, .int .i64 h.share] 27)) w5) := Lib.hid (K2.out.trans (show Keeps w2 w5 from hb5)); have HSP : Hid (Hols w5 ao5 (putH l h) cap5 b5 0) := Lib.hid (by (show Sl w5 4 ao5 (putH l h).length cap5 b5 0 ((putH l h).flatMap Hol.cells)); rw [HPUT.out, List.length_append, List.flatMap_append]; exact hs5); have hle5 := hs5.le; have hcap5 := hs5.cap; clear hown5 hb5 hsz5 hs5))
            go_ret2
            exact OutHol.nil HQ.out (((Keeps.refl w).alloc _).trans K6.out)
          | true =>
            have HQ := Lib.hid (setH_5 HT1.out HT2.out HNOT.out hvl2)
            clear hvl2 hnot hyes
            go_enter Try.func25, Try.ntmps25
            go_wp2_with (first | (go_at_call 16; (with_reducible refine (HV2.out _ _ _ _ _ HSP.out).mono ?_); rintro e6 w6 ⟨rfl, hk6⟩; have K6 := Lib.hid (K5.out.trans hk6); have HSQ := Lib.hid (HSP.out.keeps hk6); clear hk6) | (go_at_call 49; (with_reducible refine (idx_any h w.heap.size ao3 l cap3 b3 0 _ HS3.out x0 x1 x2).mono ?_); rintro e4 w4 ⟨rfl, hk4⟩; have K4 := Lib.hid (K3.out.trans hk4); have HK24 := Lib.hid (HK23.out.trans hk4); have HOWN4 := Lib.hid (own_keepsH HOWN.out hk4); have HS4 := Lib.hid (HS3.out.keeps hk4); rw [HIDX.out]; clear x0 x1 x2 x3 hzx hk4; have x0 := K4.out.cell (p := ⟨w.heap.size, 0, none⟩) (v := .int .i64 h.holder) (by go_simp); have x1 := K4.out.cell (p := ⟨w.heap.size, 1, none⟩) (v := .int .i64 h.entity) (by go_simp); have x2 := K4.out.cell (p := ⟨w.heap.size, 2, none⟩) (v := .int .i64 h.date) (by go_simp); have x3 := K4.out.cell (p := ⟨w.heap.size, 3, none⟩) (v := .int .i64 h.share) (by go_simp); have hzx := World.block_lt_of_cell? _ _ x0) | (go_at_call 48; (with_reducible refine (clone_any ao l cap b o _ (HH.out.keeps (((Keeps.refl w).alloc _).trans K2.out)) hlen).mono ?_); rintro e3 w3 ⟨v3, rfl, hown3, hk3⟩; have K3 := Lib.hid (K2.out.trans hk3); have HK23 := Lib.hid hk3; obtain ⟨ao3, cap3, b3, rfl, hs3⟩ := Recs.own hown3; have HOWN := Lib.hid hown3; have HS3 := Lib.hid hs3; have hle3 := Sl.le hs3; have hcap3 := Sl.cap hs3; clear x0 x1 x2 x3 hzx hk3 hown3 hs3; have x0 := K3.out.cell (p := ⟨w.heap.size, 0, none⟩) (v := .int .i64 h.holder) (by go_simp); have x1 := K3.out.cell (p := ⟨w.heap.size, 1, none⟩) (v := .int .i64 h.entity) (by go_simp); have x2 := K3.out.cell (p := ⟨w.heap.size, 2, none⟩) (v := .int .i64 h.date) (by go_simp); have x3 := K3.out.cell (p := ⟨w.heap.size, 3, none⟩) (v := .int .i64 h.share) (by go_simp); have hzx := World.block_lt_of_cell? _ _ x0) | (go_at_call 41; (with_reducible refine (HP.out _).mono ?_); rintro e2 w2 ⟨rfl, hk2⟩; have K2 := Lib.hid (K1.out.trans hk2); clear x0 x1 x2 x3 hzx hk2; have x0 := K2.out.cell (p := ⟨w.heap.size, 0, none⟩) (v := .int .i64 h.holder) (by go_simp); have x1 := K2.out.cell (p := ⟨w.heap.size, 1, none⟩) (v := .int .i64 h.entity) (by go_simp); have x2 := K2.out.cell (p := ⟨w.heap.size, 2, none⟩) (v := .int .i64 h.date) (by go_simp); have x3 := K2.out.cell (p := ⟨w.heap.size, 3, none⟩) (v := .int .i64 h.share) (by go_simp); have hzx := World.block_lt_of_cell? _ _ x0) | (go_at_call 16; (with_reducible refine (HV1.out _ (HH.out.keeps ((Keeps.refl w).alloc _))).mono ?_); rintro e1 w1 ⟨rfl, hk1⟩; have K1 := Lib.hid hk1; have x0 := hk1.cell (p := ⟨w.heap.size, 0, none⟩) (v := .int .i64 h.holder) (by go_simp); have x1 := hk1.cell (p := ⟨w.heap.size, 1, none⟩) (v := .int .i64 h.entity) (by go_simp); have x2 := hk1.cell (p := ⟨w.heap.size, 2, none⟩) (v := .int .i64 h.date) (by go_simp); have x3 := hk1.cell (p := ⟨w.heap.size, 3, none⟩) (v := .int .i64 h.share) (by go_simp); have hzx := World.block_lt_of_cell? _ _ x0; clear hk1) | (at_builtin; (refine wpList_app elemHol rfl _ _ rfl w2 _ _ _ rfl w2.heap.size HOWN4.out HK24.out HK24.out.size [.int .i64 h.holder, .int .i64 h.entity, .int .i64 h.date, .int .i64 h.share] 1 rfl rfl (by intro u hu; simp at hu; rcases hu with rfl | rfl | rfl | rfl <;> rfl) (by omega) (by omega) ?_); intro v5 w5 hown5 hb5 hsz5; obtain ⟨ao5, cap5, b5, rfl, hs5⟩ := Sl.own hown5; have K5 : Hid (Keeps (w.alloc (.cells #[.int .i64 h.holder, .int .i64 h.entity, .int .i64 h.date, .int .i64 h.share] 27)) w5) := Lib.hid (K2.out.trans (show Keeps w2 w5 from hb5)); have HSP : Hid (Hols w5 ao5 (putH l h) cap5 b5 0) := Lib.hid (by (show Sl w5 4 ao5 (putH l h).length cap5 b5 0 ((putH l h).flatMap Hol.cells)); rw [HPUT.out, List.length_append, List.flatMap_append]; exact hs5); have hle5 := hs5.le; have hcap5 := hs5.cap; clear hown5 hb5 hsz5 hs5))
            go_ret2
            rw [HQ.out]
            refine ⟨ao5, cap5, b5, 0, ?_, HSQ.out, ((Keeps.refl w).alloc _).trans K6.out⟩
            show _ = Ending.returned (.tuple #[.slice ao5 (putH l h).length cap5, .int .i64 0])
            rw [HLEN.out]
            rfl
      | some i =>
        have hil : i < l.length := by
          unfold idxH at hidx
          rw [List.findIdx?_eq_some_iff_getElem] at hidx
          exact hidx.1
        have HIDX : Hid (idxV (idxH l h) = (i : Int)) := Lib.hid (by rw [hidx]; rfl)
        have hput : putH l h = l.set i h := by unfold putH; rw [hidx]
        have HPUT := Lib.hid hput
        have hLEN : (putH l h).length = l.length := by rw [hput]; simp
        have HLEN := Lib.hid hLEN
        have hv2 := fun W ao c b o (hh : Hols W ao (putH l h) c b o) => hvalid_any n ao (putH l h) c b o W hh (by rw [HLEN.out]; omega) (putH_ok HO.out HHO.out)
        rw [hLEN] at hv2
        obtain ⟨vl2, hvl2⟩ : ∃ v, hvalidB n (putH l h) = v := ⟨_, rfl⟩
        have HV2 : Hid (∀ W ao c b o, Hols W ao (putH l h) c b o → Calls Try.prog 16 #[.int .i64 n, .slice ao l.length c] W fun e w' => e = .returned (.bool vl2) ∧ Keeps W w') := Lib.hid (by intro W ao c b o hh; have := hv2 W ao c b o hh; rw [hvl2] at this; exact this)
        have HNOT : Hid (¬ 200 < (putH l h).length) := Lib.hid (by rw [hLEN]; omega)
        have HVL := Lib.hid hvl2
        clear hidx hput hv2 hLEN hvl2
        go_enter Try.func25, Try.ntmps25
        go_wp2_with (first | (go_at_call 49; (with_reducible refine (idx_any h w.heap.size ao3 l cap3 b3 0 _ HS3.out x0 x1 x2).mono ?_); rintro e4 w4 ⟨rfl, hk4⟩; have K4 := Lib.hid (K3.out.trans hk4); have hown4 := own_keepsH HOWN.out hk4; obtain ⟨g, cg, eg, hg1, hg2, hg3⟩ := own_shapeH hown4 (by omega); simp only [Value.slice.injEq, true_and] at eg; obtain ⟨eg1, eg2⟩ := eg; subst eg1 eg2; have HOWN4 := Lib.hid hown4; have hs4 := HS3.out.keeps hk4; have hix4 := Sl.at hs4 Try.underlying22 Try.sizeOf27 i hil; have hgb : (w.alloc (.cells #[.int .i64 h.holder, .int .i64 h.entity, .int .i64 h.date, .int .i64 h.share] 27)).heap.size ≤ g := Nat.le_trans K2.out.size hg1; have ha4 := Sl.addr hs4 (by omega); simp only [Option.some.injEq, Addr.mk.injEq] at ha4; obtain ⟨ha5, ha6, _⟩ := ha4; subst ha5; have y0 := hs4.cell Hol.len i hil 0 _ rfl; have y1 := hs4.cell Hol.len i hil 1 _ rfl; have y2 := hs4.cell Hol.len i hil 2 _ rfl; have y3 := hs4.cell Hol.len i hil 3 _ rfl; simp only [Nat.add_zero, Nat.zero_add] at y0 y1 y2 y3 hix4; have f0 := hg3 (i * 4); have f1 := hg3 (i * 4 + 1); have f2 := hg3 (i * 4 + 2); have f3 := hg3 (i * 4 + 3); rw [HIDX.out]; clear x0 x1 x2 x3 hzx hk4 hown4 hs4 hg3; have x0 := K4.out.cell (p := ⟨w.heap.size, 0, none⟩) (v := .int .i64 h.holder) (by go_simp); have x1 := K4.out.cell (p := ⟨w.heap.size, 1, none⟩) (v := .int .i64 h.entity) (by go_simp); have x2 := K4.out.cell (p := ⟨w.heap.size, 2, none⟩) (v := .int .i64 h.date) (by go_simp); have x3 := K4.out.cell (p := ⟨w.heap.size, 3, none⟩) (v := .int .i64 h.share) (by go_simp); have hzx := World.block_lt_of_cell? _ _ x0; have hgx : g ≠ w.heap.size := (by have h8 := hgb; simp at h8; omega)) | (go_at_call 48; (with_reducible refine (clone_any ao l cap b o _ (HH.out.keeps (((Keeps.refl w).alloc _).trans K2.out)) hlen).mono ?_); rintro e3 w3 ⟨v3, rfl, hown3, hk3⟩; have K3 := Lib.hid (K2.out.trans hk3); have HK23 := Lib.hid hk3; obtain ⟨ao3, cap3, b3, rfl, hs3⟩ := Recs.own hown3; have HOWN := Lib.hid hown3; have HS3 := Lib.hid hs3; have hle3 := Sl.le hs3; have hcap3 := Sl.cap hs3; clear x0 x1 x2 x3 hzx hk3 hown3 hs3; have x0 := K3.out.cell (p := ⟨w.heap.size, 0, none⟩) (v := .int .i64 h.holder) (by go_simp); have x1 := K3.out.cell (p := ⟨w.heap.size, 1, none⟩) (v := .int .i64 h.entity) (by go_simp); have x2 := K3.out.cell (p := ⟨w.heap.size, 2, none⟩) (v := .int .i64 h.date) (by go_simp); have x3 := K3.out.cell (p := ⟨w.heap.size, 3, none⟩) (v := .int .i64 h.share) (by go_simp); have hzx := World.block_lt_of_cell? _ _ x0) | (go_at_call 41; (with_reducible refine (HP.out _).mono ?_); rintro e2 w2 ⟨rfl, hk2⟩; have K2 := Lib.hid (K1.out.trans hk2); clear x0 x1 x2 x3 hzx hk2; have x0 := K2.out.cell (p := ⟨w.heap.size, 0, none⟩) (v := .int .i64 h.holder) (by go_simp); have x1 := K2.out.cell (p := ⟨w.heap.size, 1, none⟩) (v := .int .i64 h.entity) (by go_simp); have x2 := K2.out.cell (p := ⟨w.heap.size, 2, none⟩) (v := .int .i64 h.date) (by go_simp); have x3 := K2.out.cell (p := ⟨w.heap.size, 3, none⟩) (v := .int .i64 h.share) (by go_simp); have hzx := World.block_lt_of_cell? _ _ x0) | (go_at_call 16; (with_reducible refine (HV1.out _ (HH.out.keeps ((Keeps.refl w).alloc _))).mono ?_); rintro e1 w1 ⟨rfl, hk1⟩; have K1 := Lib.hid hk1; have x0 := hk1.cell (p := ⟨w.heap.size, 0, none⟩) (v := .int .i64 h.holder) (by go_simp); have x1 := hk1.cell (p := ⟨w.heap.size, 1, none⟩) (v := .int .i64 h.entity) (by go_simp); have x2 := hk1.cell (p := ⟨w.heap.size, 2, none⟩) (v := .int .i64 h.date) (by go_simp); have x3 := hk1.cell (p := ⟨w.heap.size, 3, none⟩) (v := .int .i64 h.share) (by go_simp); have hzx := World.block_lt_of_cell? _ _ x0; clear hk1))
        have K5 : Hid (Keeps (w.alloc (.cells #[.int .i64 h.holder, .int .i64 h.entity, .int .i64 h.date, .int .i64 h.share] 27)) ((((w4.setCell ⟨g, i * 4, none⟩ (.int .i64 h.holder)).setCell ⟨g, i * 4 + 1, none⟩ (.int .i64 h.entity)).setCell ⟨g, i * 4 + 2, none⟩ (.int .i64 h.date)).setCell ⟨g, i * 4 + 3, none⟩ (.int .i64 h.share))) := Lib.hid ((((K4.out.setCell (p := ⟨g, i * 4, none⟩) hgb _).setCell (p := ⟨g, i * 4 + 1, none⟩) hgb _).setCell (p := ⟨g, i * 4 + 2, none⟩) hgb _).setCell (p := ⟨g, i * 4 + 3, none⟩) hgb _)
        have HSP : Hid (Hols ((((w4.setCell ⟨g, i * 4, none⟩ (.int .i64 h.holder)).setCell ⟨g, i * 4 + 1, none⟩ (.int .i64 h.entity)).setCell ⟨g, i * 4 + 2, none⟩ (.int .i64 h.date)).setCell ⟨g, i * 4 + 3, none⟩ (.int .i64 h.share)) (some ⟨g, 0, none⟩) (putH l h) cap3 g 0) := Lib.hid (by
          have h4 := own_setH (own_setH (own_setH (own_setH HOWN4.out (i * 4) (.int .i64 h.holder)) (i * 4 + 1) (.int .i64 h.entity)) (i * 4 + 2) (.int .i64 h.date)) (i * 4 + 3) (.int .i64 h.share)
          rw [← flat_setH l i hil h] at h4
          obtain ⟨ao9, cap9, b9, e9, hs9⟩ := Sl.own h4
          simp only [Value.slice.injEq, true_and] at e9
          obtain ⟨e9, e10⟩ := e9
          subst e9 e10
          show Sl _ 4 _ (putH l h).length cap3 g 0 ((putH l h).flatMap Hol.cells)
          rw [HPUT.out, List.length_set]
          have ha := hs9.addr (by omega)
          simp only [Option.some.injEq, Addr.mk.injEq] at ha
          obtain ⟨rfl, _⟩ := ha
          exact hs9)
        obtain ⟨w5, hw5⟩ : ∃ w5, (((w4.setCell ⟨g, i * 4, none⟩ (.int .i64 h.holder)).setCell ⟨g, i * 4 + 1, none⟩ (.int .i64 h.entity)).setCell ⟨g, i * 4 + 2, none⟩ (.int .i64 h.date)).setCell ⟨g, i * 4 + 3, none⟩ (.int .i64 h.share) = w5 := ⟨_, rfl⟩
        rw [hw5] at K5 HSP
        try rw [hw5]
        refine (HV2.out _ _ _ _ _ HSP.out).mono ?_
        rintro e6 w6 ⟨rfl, hk6⟩
        have K6 := Lib.hid (K5.out.trans hk6)
        have HSQ := Lib.hid (HSP.out.keeps hk6)
        clear hk6 hw5
        cases vl2 with
        | false =>
          have HQ := Lib.hid (setH_4 HT1.out HT2.out HNOT.out HVL.out)
          go_wp2_with fail
          go_ret2
          exact OutHol.nil HQ.out (((Keeps.refl w).alloc _).trans K6.out)
        | true =>
          have HQ := Lib.hid (setH_5 HT1.out HT2.out HNOT.out HVL.out)
          go_wp2_with fail
          go_ret2
          rw [HQ.out]
          refine ⟨some ⟨g, 0, none⟩, cap3, g, 0, ?_, HSQ.out, ((Keeps.refl w).alloc _).trans K6.out⟩
          show _ = Ending.returned (.tuple #[.slice (some ⟨g, 0, none⟩) (putH l h).length cap3, .int .i64 0])
          rw [HLEN.out]
          rfl
end Go.Proofs.Ytmlpdpacefnngaa
