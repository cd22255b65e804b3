/- ScopeIntervals and ScopeParts: the walk of the law. -/
import Derived.Test.YtkpdimbblcmnaaaScopeV
namespace Go.Proofs.Ytkpdimbblcmnaaa
open Go.RowKit
set_option linter.unusedSimpArgs false
set_option linter.unusedVariables false

/-- The world behind the variable of the group. -/
def withG (w : World) (v : Value) : World := (w.alloc (.cells (grpC (.slice none 0 0)).toArray 33)).setCells w.heap.size 0 (grpC v)
theorem withG_keeps (w : World) (v : Value) : Keeps w (withG w v) := keeps_setCells (Nat.le_refl _) _ _ _ ((Keeps.refl w).alloc _)
theorem withG_range (w : World) (v : Value) : (withG w v).rangeAt w.heap.size 0 (grpC v) := World.rangeAt_setCells_same _ _ _ _ (there_new w _ (grpC (.slice none 0 0)))
set_option maxRecDepth 100000 in
set_option maxHeartbeats 4000000 in
theorem lawSInt_any (js : List Bool) (l : List Hol) (en : Int) (ao : Option Addr) (cap b o : Nat) (aol : Option Addr) (capl bl ol : Nat) (w : World) (HJ : Sl w 1 ao js.length cap b o (js.map .bool)) (H : Hols w aol l capl bl ol) (hok : ∀ x ∈ l, x.Ok) :
    Calls Try.prog 7 #[.slice ao js.length cap, .slice aol l.length capl, .int .i64 en] w fun e w' => e = .returned (.bool true) ∧ Keeps w w' := by
  have hcap := HJ.cap
  have hle := HJ.le
  have hcapl := Sl.cap H
  have hlel := Sl.le H
  have HHJ := Lib.hid HJ
  have HH := Lib.hid H
  have HO := Lib.hid hok
  clear HJ H hok
  obtain ⟨xs, hxs⟩ := isDates_ex l
  obtain ⟨f, hfew⟩ : ∃ f, (decide (js.length ≤ 12) && decide (l.length ≤ 20)) = f := ⟨_, rfl⟩
  cases f with
  | true =>
    have hf2 := hfew
    simp only [Bool.and_eq_true, decide_eq_true_eq] at hf2
    obtain ⟨hj12, hl20⟩ := hf2
    have HJ : Hid (∀ W, Keeps w W → Calls Try.prog 15 #[.slice ao js.length cap] W fun e w' => ∃ ao cap b o, e = .returned (.agg #[.string ⟨#[]⟩, .int .i64 0, .int .i64 0, .int .i64 0, .slice none 0 0, .int .i64 0, .int .i64 0, .int .i64 0, .int .i64 0, .int .i64 0, .int .i64 0, .int .i64 0, .int .i64 0, .int .i64 0, .int .i64 0, .int .i64 0, .int .i64 0, .int .i64 0, .int .i64 0, .int .i64 0, .slice ao js.length cap]) ∧ Ents w' ao js cap b o ∧ Keeps W w') := Lib.hid (fun W hk => joint_any js ao cap b o W (HHJ.out.keeps hk) (by omega))
    obtain ⟨⟨rl, re⟩, hr⟩ : ∃ r, ivR js l xs en = r := ⟨_, rfl⟩
    have HM1 : Hid (∀ W ao cap b o, Keeps w W → Ents W ao js cap b o → Calls Try.prog 23 #[.agg #[.string ⟨#[]⟩, .int .i64 0, .int .i64 0, .int .i64 0, .slice none 0 0, .int .i64 0, .int .i64 0, .int .i64 0, .int .i64 0, .int .i64 0, .int .i64 0, .int .i64 0, .int .i64 0, .int .i64 0, .int .i64 0, .int .i64 0, .int .i64 0, .int .i64 0, .int .i64 0, .int .i64 0, .slice ao js.length cap], .slice aol l.length capl, .int .i64 en] W fun e w' => ∃ ao cap b o, e = .returned (.tuple #[.slice ao rl.length cap, .int .i64 re]) ∧ Ivls w' ao rl cap b o ∧ Keeps W w') := Lib.hid (fun W ao cap b o hk he => by
      have := ivals_any js l xs hxs en ao cap b o aol capl bl ol W he (HH.out.keeps hk) (by omega) HO.out
      rw [hr] at this
      exact this)
    have HM2 : Hid (∀ W ao cap b o, Keeps w W → Ents W ao js cap b o → Calls Try.prog 24 #[.agg #[.string ⟨#[]⟩, .int .i64 0, .int .i64 0, .int .i64 0, .slice none 0 0, .int .i64 0, .int .i64 0, .int .i64 0, .int .i64 0, .int .i64 0, .int .i64 0, .int .i64 0, .int .i64 0, .int .i64 0, .int .i64 0, .int .i64 0, .int .i64 0, .int .i64 0, .int .i64 0, .int .i64 0, .slice ao js.length cap], .slice aol l.length capl, .int .i64 en] W fun e w' => ∃ ao cap b o, e = .returned (.tuple #[.slice ao rl.length cap, .int .i64 re]) ∧ Ivls w' ao rl cap b o ∧ Keeps W w') := Lib.hid (fun W ao cap b o hk he => by
      have := rivals_any js l xs hxs en ao cap b o aol capl bl ol W he (HH.out.keeps hk) (by omega)
      rw [hr] at this
      exact this)
    clear hr
    go_enter Try.func7, Try.ntmps7
    go_wp2_with (first | (refine wpList_store_mid rfl 33 _ _ rfl w2.heap.size 0 (grpC (.slice ao2 js.length cap2)).toArray rfl rfl (there_new w2 33 (grpC (.slice none 0 0))) groupSize (grpC_one _ _ _) ?_; change wpList _ _ _ _ _ (withG w2 (.slice ao2 js.length cap2)); obtain ⟨w3, hw3⟩ : ∃ w3, withG w2 (.slice ao2 js.length cap2) = w3 := ⟨_, rfl⟩; have hk3 := withG_keeps w2 (.slice ao2 js.length cap2); have hrg := withG_range w2 (.slice ao2 js.length cap2); rw [hw3] at hk3 hrg; have K3 := Lib.hid (K2.out.trans hk3); have HRG := Lib.hid hrg; have HS3 := Lib.hid (HS2.out.keeps hk3); rw [hw3]; skip; clear hk3 hrg hw3) | (refine wpList_load_mid rfl 33 _ rfl w2.heap.size 0 rfl (grpC (.slice ao2 js.length cap2)) _ HRG4.out Try.underlying33 rfl groupSize ?_) | (refine wpList_load_mid rfl 33 _ rfl w2.heap.size 0 rfl (grpC (.slice ao2 js.length cap2)) _ HRG.out Try.underlying33 rfl groupSize ?_) | (go_at_call 25; (with_reducible refine (sameIv_any rl ao4 ao5 cap4 b4 o4 cap5 b5 o5 _ HS45.out HS5.out).mono ?_); rintro e w6 ⟨rfl, hk6⟩; have K6 := Lib.hid (K5.out.trans hk6); clear hk6) | (go_at_call 24; (refine (HM2.out _ _ _ _ _ K4.out HE4.out).mono ?_); rintro e w5 ⟨ao5, cap5, b5, o5, rfl, hs5, hk5⟩; have HS5 := Lib.hid hs5; have K5 := Lib.hid (K4.out.trans hk5); have HS45 := Lib.hid (HS4.out.keeps hk5); clear hs5 hk5) | (go_at_call 23; (refine (HM1.out _ _ _ _ _ K3.out HS3.out).mono ?_); rintro e w4 ⟨ao4, cap4, b4, o4, rfl, hs4, hk4⟩; have HS4 := Lib.hid hs4; have K4 := Lib.hid (K3.out.trans hk4); have HE4 := Lib.hid (HS3.out.keeps hk4); have HRG4 := Lib.hid (rangeAt_keeps HRG.out hk4); skip; clear hs4 hk4) | (go_at_call 15; (refine (HJ.out _ K1.out).mono ?_); rintro e w2 ⟨ao2, cap2, b2, o2, rfl, hs2, hk2⟩; have HS2 := Lib.hid hs2; have K2 := Lib.hid (K1.out.trans hk2); have hc2 := Sl.cap hs2; have hl2 := Sl.le hs2; skip; clear hs2 hk2) | (go_at_call 22; refine (sfew_any _ _ _ _ _ _ _ _ hfew).mono ?_; rintro e wf ⟨rfl, rfl⟩) | (go_at_call 21; refine (sawake_any _).mono ?_; rintro e w1 ⟨rfl, hk1⟩; have K1 := Lib.hid ((Keeps.refl w).trans hk1); skip; clear hk1))
    go_ret
    exact ⟨rfl, K6.out⟩
  | false =>
    go_enter Try.func7, Try.ntmps7
    go_wp2_with (first | (go_at_call 22; refine (sfew_any _ _ _ _ _ _ _ _ hfew).mono ?_; rintro e wf ⟨rfl, rfl⟩) | (go_at_call 21; refine (sawake_any _).mono ?_; rintro e w1 ⟨rfl, hk1⟩; have K1 := Lib.hid ((Keeps.refl w).trans hk1); skip; clear hk1))
    go_ret
    exact ⟨rfl, K1.out⟩
set_option maxRecDepth 100000 in
set_option maxHeartbeats 4000000 in
theorem lawSPar_any (js : List Bool) (l : List Hol) (p0 p1 p2 p3 : Int) (ao : Option Addr) (cap b o : Nat) (aol : Option Addr) (capl bl ol : Nat) (w : World) (HJ : Sl w 1 ao js.length cap b o (js.map .bool)) (H : Hols w aol l capl bl ol) (hok : ∀ x ∈ l, x.Ok) :
    Calls Try.prog 8 #[.slice ao js.length cap, .slice aol l.length capl, .agg #[.int .i64 p0, .int .i64 p1, .int .i64 p2, .int .i64 p3]] w fun e w' => e = .returned (.bool true) ∧ Keeps w w' := by
  have hcap := HJ.cap
  have hle := HJ.le
  have hcapl := Sl.cap H
  have hlel := Sl.le H
  have HHJ := Lib.hid HJ
  have HH := Lib.hid H
  have HO := Lib.hid hok
  clear HJ H hok
  obtain ⟨xs, hxs⟩ := isDates_ex l
  obtain ⟨f, hfew⟩ : ∃ f, (decide (js.length ≤ 12) && decide (l.length ≤ 20)) = f := ⟨_, rfl⟩
  cases f with
  | true =>
    have hf2 := hfew
    simp only [Bool.and_eq_true, decide_eq_true_eq] at hf2
    obtain ⟨hj12, hl20⟩ := hf2
    have HJ : Hid (∀ W, Keeps w W → Calls Try.prog 15 #[.slice ao js.length cap] W fun e w' => ∃ ao cap b o, e = .returned (.agg #[.string ⟨#[]⟩, .int .i64 0, .int .i64 0, .int .i64 0, .slice none 0 0, .int .i64 0, .int .i64 0, .int .i64 0, .int .i64 0, .int .i64 0, .int .i64 0, .int .i64 0, .int .i64 0, .int .i64 0, .int .i64 0, .int .i64 0, .int .i64 0, .int .i64 0, .int .i64 0, .int .i64 0, .slice ao js.length cap]) ∧ Ents w' ao js cap b o ∧ Keeps W w') := Lib.hid (fun W hk => joint_any js ao cap b o W (HHJ.out.keeps hk) (by omega))
    obtain ⟨⟨rl, re⟩, hr⟩ : ∃ r, partR (ivR js l xs p0) p1 p2 p3 = r := ⟨_, rfl⟩
    have HM1 : Hid (∀ W ao cap b o, Keeps w W → Ents W ao js cap b o → Calls Try.prog 26 #[.agg #[.string ⟨#[]⟩, .int .i64 0, .int .i64 0, .int .i64 0, .slice none 0 0, .int .i64 0, .int .i64 0, .int .i64 0, .int .i64 0, .int .i64 0, .int .i64 0, .int .i64 0, .int .i64 0, .int .i64 0, .int .i64 0, .int .i64 0, .int .i64 0, .int .i64 0, .int .i64 0, .int .i64 0, .slice ao js.length cap], .slice aol l.length capl, .int .i64 p0, .int .i64 p1, .int .i64 p2, .int .i64 p3] W fun e w' => ∃ ao cap b o, e = .returned (.tuple #[.slice ao rl.length cap, .int .i64 re]) ∧ Ivls w' ao rl cap b o ∧ Keeps W w') := Lib.hid (fun W ao cap b o hk he => by
      have := parts_any js l xs hxs p0 p1 p2 p3 ao cap b o aol capl bl ol W he (HH.out.keeps hk) (by omega) HO.out
      rw [hr] at this
      exact this)
    have HM2 : Hid (∀ W ao cap b o, Keeps w W → Ents W ao js cap b o → Calls Try.prog 27 #[.agg #[.string ⟨#[]⟩, .int .i64 0, .int .i64 0, .int .i64 0, .slice none 0 0, .int .i64 0, .int .i64 0, .int .i64 0, .int .i64 0, .int .i64 0, .int .i64 0, .int .i64 0, .int .i64 0, .int .i64 0, .int .i64 0, .int .i64 0, .int .i64 0, .int .i64 0, .int .i64 0, .int .i64 0, .slice ao js.length cap], .slice aol l.length capl, .int .i64 p0, .int .i64 p1, .int .i64 p2, .int .i64 p3] W fun e w' => ∃ ao cap b o, e = .returned (.tuple #[.slice ao rl.length cap, .int .i64 re]) ∧ Ivls w' ao rl cap b o ∧ Keeps W w') := Lib.hid (fun W ao cap b o hk he => by
      have := rparts_any js l xs hxs p0 p1 p2 p3 ao cap b o aol capl bl ol W he (HH.out.keeps hk) (by omega)
      rw [hr] at this
      exact this)
    clear hr
    go_enter Try.func8, Try.ntmps8
    go_wp2_with (first | (refine wpList_store_mid rfl 33 _ _ rfl w2.heap.size 0 (grpC (.slice ao2 js.length cap2)).toArray rfl rfl (there_new w2 33 (grpC (.slice none 0 0))) groupSize (grpC_one _ _ _) ?_; change wpList _ _ _ _ _ (withG w2 (.slice ao2 js.length cap2)); obtain ⟨w3, hw3⟩ : ∃ w3, withG w2 (.slice ao2 js.length cap2) = w3 := ⟨_, rfl⟩; have hk3 := withG_keeps w2 (.slice ao2 js.length cap2); have hrg := withG_range w2 (.slice ao2 js.length cap2); rw [hw3] at hk3 hrg; have K3 := Lib.hid (K2.out.trans hk3); have HRG := Lib.hid hrg; have HS3 := Lib.hid (HS2.out.keeps hk3); rw [hw3]; have y0 := (hk3).cell x0; have y1 := (hk3).cell x1; have y2 := (hk3).cell x2; have y3 := (hk3).cell x3; clear x0 x1 x2 x3 hzx; have x0 := y0; have x1 := y1; have x2 := y2; have x3 := y3; have hzx := World.block_lt_of_cell? _ _ x0; clear y0 y1 y2 y3; clear hk3 hrg hw3) | (refine wpList_load_mid rfl 33 _ rfl w2.heap.size 0 rfl (grpC (.slice ao2 js.length cap2)) _ HRG4.out Try.underlying33 rfl groupSize ?_) | (refine wpList_load_mid rfl 33 _ rfl w2.heap.size 0 rfl (grpC (.slice ao2 js.length cap2)) _ HRG.out Try.underlying33 rfl groupSize ?_) | (go_at_call 25; (with_reducible refine (sameIv_any rl ao4 ao5 cap4 b4 o4 cap5 b5 o5 _ HS45.out HS5.out).mono ?_); rintro e w6 ⟨rfl, hk6⟩; have K6 := Lib.hid (K5.out.trans hk6); clear hk6) | (go_at_call 27; (refine (HM2.out _ _ _ _ _ K4.out HE4.out).mono ?_); rintro e w5 ⟨ao5, cap5, b5, o5, rfl, hs5, hk5⟩; have HS5 := Lib.hid hs5; have K5 := Lib.hid (K4.out.trans hk5); have HS45 := Lib.hid (HS4.out.keeps hk5); clear hs5 hk5) | (go_at_call 26; (refine (HM1.out _ _ _ _ _ K3.out HS3.out).mono ?_); rintro e w4 ⟨ao4, cap4, b4, o4, rfl, hs4, hk4⟩; have HS4 := Lib.hid hs4; have K4 := Lib.hid (K3.out.trans hk4); have HE4 := Lib.hid (HS3.out.keeps hk4); have HRG4 := Lib.hid (rangeAt_keeps HRG.out hk4); have y0 := (hk4).cell x0; have y1 := (hk4).cell x1; have y2 := (hk4).cell x2; have y3 := (hk4).cell x3; clear x0 x1 x2 x3 hzx; have x0 := y0; have x1 := y1; have x2 := y2; have x3 := y3; have hzx := World.block_lt_of_cell? _ _ x0; clear y0 y1 y2 y3; clear hs4 hk4) | (go_at_call 15; (refine (HJ.out _ K1.out).mono ?_); rintro e w2 ⟨ao2, cap2, b2, o2, rfl, hs2, hk2⟩; have HS2 := Lib.hid hs2; have K2 := Lib.hid (K1.out.trans hk2); have hc2 := Sl.cap hs2; have hl2 := Sl.le hs2; have y0 := (hk2).cell x0; have y1 := (hk2).cell x1; have y2 := (hk2).cell x2; have y3 := (hk2).cell x3; clear x0 x1 x2 x3 hzx; have x0 := y0; have x1 := y1; have x2 := y2; have x3 := y3; have hzx := World.block_lt_of_cell? _ _ x0; clear y0 y1 y2 y3; clear hs2 hk2) | (go_at_call 22; refine (sfew_any _ _ _ _ _ _ _ _ hfew).mono ?_; rintro e wf ⟨rfl, rfl⟩) | (go_at_call 21; refine (sawake_any _).mono ?_; rintro e w1 ⟨rfl, hk1⟩; have K1 := Lib.hid (((Keeps.refl w).alloc _).trans hk1); have x0 := (hk1).cell (p := ⟨w.heap.size, 0, none⟩) (v := .int .i64 p0) (by go_simp); have x1 := (hk1).cell (p := ⟨w.heap.size, 1, none⟩) (v := .int .i64 p1) (by go_simp); have x2 := (hk1).cell (p := ⟨w.heap.size, 2, none⟩) (v := .int .i64 p2) (by go_simp); have x3 := (hk1).cell (p := ⟨w.heap.size, 3, none⟩) (v := .int .i64 p3) (by go_simp); have hzx := World.block_lt_of_cell? _ _ x0; clear hk1))
    go_ret
    exact ⟨rfl, K6.out⟩
  | false =>
    go_enter Try.func8, Try.ntmps8
    go_wp2_with (first | (go_at_call 22; refine (sfew_any _ _ _ _ _ _ _ _ hfew).mono ?_; rintro e wf ⟨rfl, rfl⟩) | (go_at_call 21; refine (sawake_any _).mono ?_; rintro e w1 ⟨rfl, hk1⟩; have K1 := Lib.hid (((Keeps.refl w).alloc _).trans hk1); skip; clear hk1))
    go_ret
    exact ⟨rfl, K1.out⟩
end Go.Proofs.Ytkpdimbblcmnaaa
