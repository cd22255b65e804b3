/- HoldingSet: the walk of the law. -/
import Derived.Test.YtmlpdpacefnngaaHolAwake
import Derived.Test.YtmlpdpacefnngaaHolRSet
import Derived.Test.YtmlpdpacefnngaaHolAll
namespace Go.Proofs.Ytmlpdpacefnngaa
open Go.RowKit
set_option linter.unusedSimpArgs false
set_option linter.unusedVariables false

set_option maxRecDepth 100000 in
set_option maxHeartbeats 4000000 in
theorem lawHSet_any (n : Int) (l : List Hol) (h : Hol) (ao : Option Addr) (cap b o : Nat) (w : World) (H : Hols w ao l cap b o) (hok : ∀ x ∈ l, x.Ok) (hho : h.Ok) :
    Calls Try.prog 5 #[.int .i64 n, .slice ao l.length cap, .agg #[.int .i64 h.holder, .int .i64 h.entity, .int .i64 h.date, .int .i64 h.share]] w fun e w' => e = .returned (.bool true) ∧ Keeps w w' := by
  have HH := Lib.hid H
  have HO := Lib.hid hok
  have HHO := Lib.hid hho
  have H1C := Lib.hid (ones_hol l)
  have hcap := Sl.cap H
  have hle := Sl.le H
  clear H hok hho
  obtain ⟨⟨rl, re⟩, hr⟩ : ∃ r, setH n l h = r := ⟨_, rfl⟩
  have HSET0 : l.length ≤ 900 → ∀ W ao c b o, Hols W ao l c b o → Calls Try.prog 25 #[.int .i64 n, .slice ao l.length c, .agg #[.int .i64 h.holder, .int .i64 h.entity, .int .i64 h.date, .int .i64 h.share]] W fun e w' => ∃ ao cap b o, e = .returned (.tuple #[.slice ao rl.length cap, .int .i64 re]) ∧ Hols w' ao rl cap b o ∧ Keeps W w' := fun hl W ao c b o hh => by
    have := set_any n ao l c b o h W hh hl HO.out HHO.out
    rw [hr] at this
    exact this
  have HRSET0 : l.length ≤ 900 → ∀ W ao c b o, Hols W ao l c b o → Calls Try.prog 26 #[.int .i64 n, .slice ao l.length c, .agg #[.int .i64 h.holder, .int .i64 h.entity, .int .i64 h.date, .int .i64 h.share]] W fun e w' => ∃ ao cap b o, e = .returned (.tuple #[.slice ao rl.length cap, .int .i64 re]) ∧ Hols w' ao rl cap b o ∧ Keeps W w' := fun hl W ao c b o hh => by
    have := rset_any n ao l c b o h W hh hl
    rw [hr] at this
    exact this
  clear hr
  by_cases h1 : l.length ≤ 30
  · have HSET := Lib.hid (HSET0 (by omega))
    have HRSET := Lib.hid (HRSET0 (by omega))
    have e1 : decide ((30 : Int) < (l.length : Int)) = false := decide_eq_false (by omega)
    have e3 : decide ((205 : Int) < (l.length : Int)) = false := decide_eq_false (by omega)
    clear HSET0 HRSET0
    go_enter Try.func5, Try.ntmps5
    go_wp2_with (first | (go_at_call 27; (with_reducible refine (sameAll_any l ao3 ao cap3 b3 0 cap b o _ HS58.out (HH.out.keeps (((Keeps.refl w).alloc _).trans K8.out))).mono ?_); rintro e w9 ⟨rfl, hk9⟩; have K9 := Lib.hid (K8.out.trans hk9); clear hk9) | (go_at_call 27; (with_reducible refine (sameAll_any rl ao6 ao7 cap6 b6 o6 cap7 b7 o7 _ HS67.out HS7.out).mono ?_); rintro e w8 ⟨rfl, hk8⟩; have K8 := Lib.hid (K7.out.trans hk8); have HS58 := Lib.hid (HS57.out.keeps hk8); clear hk8) | (go_at_call 26; (with_reducible refine (HRSET.out _ _ _ _ _ (HH.out.keeps (((Keeps.refl w).alloc _).trans K6.out))).mono ?_); rintro e w7 ⟨ao7, cap7, b7, o7, rfl, hs7, hk7⟩; have HS7 := Lib.hid hs7; have K7 := Lib.hid (K6.out.trans hk7); have HS57 := Lib.hid (HS56.out.keeps hk7); have HS67 := Lib.hid (HS6.out.keeps hk7); clear hs7 hk7 x0 x1 x2 x3 hzx) | (go_at_call 25; (with_reducible refine (HSET.out _ _ _ _ _ HS5.out).mono ?_); rintro e w6 ⟨ao6, cap6, b6, o6, rfl, hs6, hk6⟩; have HS6 := Lib.hid hs6; have K6 := Lib.hid (K5.out.trans hk6); have HS56 := Lib.hid (HS5.out.keeps hk6); clear hs6 hk6 x0 x1 x2 x3 hzx; have x0 := K6.out.cell (p := ⟨w.heap.size, 0, none⟩) (v := .int .i64 h.holder) (by go_simp); have x1 := K6.out.cell (p := ⟨w.heap.size, 1, none⟩) (v := .int .i64 h.entity) (by go_simp); have x2 := K6.out.cell (p := ⟨w.heap.size, 2, none⟩) (v := .int .i64 h.date) (by go_simp); have x3 := K6.out.cell (p := ⟨w.heap.size, 3, none⟩) (v := .int .i64 h.share) (by go_simp); have hzx := World.block_lt_of_cell? _ _ x0) | (at_builtin; (refine wpList_app_all elemHol rfl (.tmp 27) (.tmp 28) rfl w1 _ 0 [] rfl w1.heap.size (own_empty (Nat.le_refl _)) (by exact ((Below.refl _ w1).alloc (Nat.le_refl _) _)) (by simp) ao l.length cap b o (l.flatMap Hol.cells) (by rfl) (by exact HH1.out.keeps ((Keeps.refl w1).alloc _)) H1C.out (by omega) (by omega) ?_); intro v5 w5 hown5 hb5 hsz5; rw [Nat.zero_add, List.nil_append] at hown5; have HOWN5 := Lib.hid hown5; obtain ⟨ao3, cap3, b3, rfl, hs3⟩ := Recs.own HOWN5.out; have hk5 : Keeps w1 w5 := hb5; have K5 := Lib.hid (K1.out.trans hk5); have HS5 := Lib.hid hs3; have hle3 := Sl.le hs3; have hcap3 := Sl.cap hs3; clear hown5 hb5 hsz5 hs3 x0 x1 x2 x3 hzx hk5; have x0 := K5.out.cell (p := ⟨w.heap.size, 0, none⟩) (v := .int .i64 h.holder) (by go_simp); have x1 := K5.out.cell (p := ⟨w.heap.size, 1, none⟩) (v := .int .i64 h.entity) (by go_simp); have x2 := K5.out.cell (p := ⟨w.heap.size, 2, none⟩) (v := .int .i64 h.date) (by go_simp); have x3 := K5.out.cell (p := ⟨w.heap.size, 3, none⟩) (v := .int .i64 h.share) (by go_simp); have hzx := World.block_lt_of_cell? _ _ x0) | (go_at_call 15; refine (hawake_any _).mono ?_; rintro e w1 ⟨rfl, hk1⟩; have K1 := Lib.hid hk1; have HH1 := Lib.hid (HH.out.keeps (((Keeps.refl w).alloc _).trans hk1)); clear hk1; have x0 := K1.out.cell (p := ⟨w.heap.size, 0, none⟩) (v := .int .i64 h.holder) (by go_simp); have x1 := K1.out.cell (p := ⟨w.heap.size, 1, none⟩) (v := .int .i64 h.entity) (by go_simp); have x2 := K1.out.cell (p := ⟨w.heap.size, 2, none⟩) (v := .int .i64 h.date) (by go_simp); have x3 := K1.out.cell (p := ⟨w.heap.size, 3, none⟩) (v := .int .i64 h.share) (by go_simp); have hzx := World.block_lt_of_cell? _ _ x0))
    go_ret
    exact ⟨rfl, ((Keeps.refl w).alloc _).trans K9.out⟩
  · have e1 : decide ((30 : Int) < (l.length : Int)) = true := decide_eq_true (by omega)
    by_cases h2 : l.length < 196
    · have e2 : decide ((l.length : Int) < 196) = true := decide_eq_true (by omega)
      clear HSET0 HRSET0
      go_enter Try.func5, Try.ntmps5
      go_wp2_with (go_at_call 15; refine (hawake_any _).mono ?_; rintro e w1 ⟨rfl, hk1⟩; have K1 := Lib.hid hk1; have HH1 := Lib.hid (HH.out.keeps (((Keeps.refl w).alloc _).trans hk1)); clear hk1; have x0 := K1.out.cell (p := ⟨w.heap.size, 0, none⟩) (v := .int .i64 h.holder) (by go_simp); have x1 := K1.out.cell (p := ⟨w.heap.size, 1, none⟩) (v := .int .i64 h.entity) (by go_simp); have x2 := K1.out.cell (p := ⟨w.heap.size, 2, none⟩) (v := .int .i64 h.date) (by go_simp); have x3 := K1.out.cell (p := ⟨w.heap.size, 3, none⟩) (v := .int .i64 h.share) (by go_simp); have hzx := World.block_lt_of_cell? _ _ x0)
      go_ret
      exact ⟨rfl, ((Keeps.refl w).alloc _).trans K1.out⟩
    · have e2 : decide ((l.length : Int) < 196) = false := decide_eq_false (by omega)
      by_cases h3 : l.length ≤ 205
      · have HSET := Lib.hid (HSET0 (by omega))
        have HRSET := Lib.hid (HRSET0 (by omega))
        have e3 : decide ((205 : Int) < (l.length : Int)) = false := decide_eq_false (by omega)
        clear HSET0 HRSET0
        go_enter Try.func5, Try.ntmps5
        go_wp2_with (first | (go_at_call 27; (with_reducible refine (sameAll_any l ao3 ao cap3 b3 0 cap b o _ HS58.out (HH.out.keeps (((Keeps.refl w).alloc _).trans K8.out))).mono ?_); rintro e w9 ⟨rfl, hk9⟩; have K9 := Lib.hid (K8.out.trans hk9); clear hk9) | (go_at_call 27; (with_reducible refine (sameAll_any rl ao6 ao7 cap6 b6 o6 cap7 b7 o7 _ HS67.out HS7.out).mono ?_); rintro e w8 ⟨rfl, hk8⟩; have K8 := Lib.hid (K7.out.trans hk8); have HS58 := Lib.hid (HS57.out.keeps hk8); clear hk8) | (go_at_call 26; (with_reducible refine (HRSET.out _ _ _ _ _ (HH.out.keeps (((Keeps.refl w).alloc _).trans K6.out))).mono ?_); rintro e w7 ⟨ao7, cap7, b7, o7, rfl, hs7, hk7⟩; have HS7 := Lib.hid hs7; have K7 := Lib.hid (K6.out.trans hk7); have HS57 := Lib.hid (HS56.out.keeps hk7); have HS67 := Lib.hid (HS6.out.keeps hk7); clear hs7 hk7 x0 x1 x2 x3 hzx) | (go_at_call 25; (with_reducible refine (HSET.out _ _ _ _ _ HS5.out).mono ?_); rintro e w6 ⟨ao6, cap6, b6, o6, rfl, hs6, hk6⟩; have HS6 := Lib.hid hs6; have K6 := Lib.hid (K5.out.trans hk6); have HS56 := Lib.hid (HS5.out.keeps hk6); clear hs6 hk6 x0 x1 x2 x3 hzx; have x0 := K6.out.cell (p := ⟨w.heap.size, 0, none⟩) (v := .int .i64 h.holder) (by go_simp); have x1 := K6.out.cell (p := ⟨w.heap.size, 1, none⟩) (v := .int .i64 h.entity) (by go_simp); have x2 := K6.out.cell (p := ⟨w.heap.size, 2, none⟩) (v := .int .i64 h.date) (by go_simp); have x3 := K6.out.cell (p := ⟨w.heap.size, 3, none⟩) (v := .int .i64 h.share) (by go_simp); have hzx := World.block_lt_of_cell? _ _ x0) | (at_builtin; (refine wpList_app_all elemHol rfl (.tmp 27) (.tmp 28) rfl w1 _ 0 [] rfl w1.heap.size (own_empty (Nat.le_refl _)) (by exact ((Below.refl _ w1).alloc (Nat.le_refl _) _)) (by simp) ao l.length cap b o (l.flatMap Hol.cells) (by rfl) (by exact HH1.out.keeps ((Keeps.refl w1).alloc _)) H1C.out (by omega) (by omega) ?_); intro v5 w5 hown5 hb5 hsz5; rw [Nat.zero_add, List.nil_append] at hown5; have HOWN5 := Lib.hid hown5; obtain ⟨ao3, cap3, b3, rfl, hs3⟩ := Recs.own HOWN5.out; have hk5 : Keeps w1 w5 := hb5; have K5 := Lib.hid (K1.out.trans hk5); have HS5 := Lib.hid hs3; have hle3 := Sl.le hs3; have hcap3 := Sl.cap hs3; clear hown5 hb5 hsz5 hs3 x0 x1 x2 x3 hzx hk5; have x0 := K5.out.cell (p := ⟨w.heap.size, 0, none⟩) (v := .int .i64 h.holder) (by go_simp); have x1 := K5.out.cell (p := ⟨w.heap.size, 1, none⟩) (v := .int .i64 h.entity) (by go_simp); have x2 := K5.out.cell (p := ⟨w.heap.size, 2, none⟩) (v := .int .i64 h.date) (by go_simp); have x3 := K5.out.cell (p := ⟨w.heap.size, 3, none⟩) (v := .int .i64 h.share) (by go_simp); have hzx := World.block_lt_of_cell? _ _ x0) | (go_at_call 15; refine (hawake_any _).mono ?_; rintro e w1 ⟨rfl, hk1⟩; have K1 := Lib.hid hk1; have HH1 := Lib.hid (HH.out.keeps (((Keeps.refl w).alloc _).trans hk1)); clear hk1; have x0 := K1.out.cell (p := ⟨w.heap.size, 0, none⟩) (v := .int .i64 h.holder) (by go_simp); have x1 := K1.out.cell (p := ⟨w.heap.size, 1, none⟩) (v := .int .i64 h.entity) (by go_simp); have x2 := K1.out.cell (p := ⟨w.heap.size, 2, none⟩) (v := .int .i64 h.date) (by go_simp); have x3 := K1.out.cell (p := ⟨w.heap.size, 3, none⟩) (v := .int .i64 h.share) (by go_simp); have hzx := World.block_lt_of_cell? _ _ x0))
        go_ret
        exact ⟨rfl, ((Keeps.refl w).alloc _).trans K9.out⟩
      · have e3 : decide ((205 : Int) < (l.length : Int)) = true := decide_eq_true (by omega)
        clear HSET0 HRSET0
        go_enter Try.func5, Try.ntmps5
        go_wp2_with (go_at_call 15; refine (hawake_any _).mono ?_; rintro e w1 ⟨rfl, hk1⟩; have K1 := Lib.hid hk1; have HH1 := Lib.hid (HH.out.keeps (((Keeps.refl w).alloc _).trans hk1)); clear hk1; have x0 := K1.out.cell (p := ⟨w.heap.size, 0, none⟩) (v := .int .i64 h.holder) (by go_simp); have x1 := K1.out.cell (p := ⟨w.heap.size, 1, none⟩) (v := .int .i64 h.entity) (by go_simp); have x2 := K1.out.cell (p := ⟨w.heap.size, 2, none⟩) (v := .int .i64 h.date) (by go_simp); have x3 := K1.out.cell (p := ⟨w.heap.size, 3, none⟩) (v := .int .i64 h.share) (by go_simp); have hzx := World.block_lt_of_cell? _ _ x0)
        go_ret
        exact ⟨rfl, ((Keeps.refl w).alloc _).trans K1.out⟩
end Go.Proofs.Ytmlpdpacefnngaa
