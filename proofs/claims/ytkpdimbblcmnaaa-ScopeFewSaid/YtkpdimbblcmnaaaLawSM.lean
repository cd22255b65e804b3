/- ScopeMethods: the walk of the law. -/
import Derived.Test.YtkpdimbblcmnaaaLawSB
namespace Go.Proofs.Ytkpdimbblcmnaaa
open Go.RowKit
set_option linter.unusedSimpArgs false
set_option linter.unusedVariables false

theorem ivl_to {js : List Bool} {l : List Hol} {xs : List Int} (h : IsDates l xs) (hv : hvalidB (js.length : Int) l = true) (e : Nat) {x : Ivl} (hx : x ∈ ivsF (mAt js l e) (sdays xs)) : -25567 ≤ x.frm ∧ x.frm < x.to ∧ x.to ≤ 84006 := by
  have I := ivsF_ok h hv e
  obtain ⟨m1, m2, _⟩ := I.mem x hx
  have h3 := (dateB_true.1 (sdays_bd h hv _ m1)).1
  refine ⟨h3, m2, ?_⟩
  obtain ⟨k, hk, rfl⟩ := List.getElem_of_mem hx
  by_cases hl : k + 1 < (ivsF (mAt js l e) (sdays xs)).length
  · have h1 := (I.chain k hl).1
    have h2 := (I.mem _ (List.getElem_mem hl)).1
    have h4 := (dateB_true.1 (sdays_bd h hv _ h2)).2
    omega
  · have := I.last _ (by rw [List.getLast?_eq_getElem?, show (ivsF (mAt js l e) (sdays xs)).length - 1 = k from by omega, List.getElem?_eq_getElem hk])
    omega
/-- Errors are the same; else the interval holds the day. -/
theorem scope_meth {js : List Bool} {l : List Hol} {xs : List Int} (hx : IsDates l xs) {en day : Int} (h0 : en ≠ 0) :
    (∃ re mv, re ≠ 0 ∧ curR (ivR js l xs en) day = (⟨0, 0, 0⟩, re) ∧ matR' js l en day = (mv, re)) ∨
    (∃ (k : Nat) (x : Ivl), en = (k : Int) ∧ k < js.length ∧ hvalidB (js.length : Int) l = true ∧ dateB day = true ∧ curR (ivR js l xs en) day = (x, 0) ∧ x ∈ ivsF (mAt js l k) (sdays xs) ∧ x.frm ≤ day ∧ day < x.to) := by
  cases hv : hvalidB (js.length : Int) l with
  | false =>
    left
    have h1 := matR_1 (day := day) hv
    refine ⟨1, 0, by decide, ?_, ?_⟩
    · rw [ivR_1 hv]; exact cur_1 (by decide)
    · have h2 : methR js l day = ([], 1) := by unfold methR; rw [h1]; simp
      unfold matR'; rw [h2]; simp
  | true =>
    by_cases hr : 0 ≤ en ∧ en < (js.length : Int)
    · cases hd : dateB day with
      | false =>
        left
        have h1 := matR_2 hv hd
        refine ⟨2, 0, by decide, ?_, ?_⟩
        · rw [ivR_4 hv hr h0]; exact cur_2 (curI_miss fun h => by rw [hd] at h; cases h)
        · have h2 : methR js l day = ([], 2) := by unfold methR; rw [h1]; simp
          unfold matR'; rw [h2]; simp
      | true =>
        right
        obtain ⟨x, hc, hm, h1, h2⟩ := cur_some hx hv en.toNat hd
        refine ⟨en.toNat, x, by omega, by omega, rfl, rfl, ?_, hm, h1, h2⟩
        rw [ivR_4 hv hr h0]; exact cur_3 hc
    · left
      refine ⟨2, 0, by decide, ?_, ?_⟩
      · rw [ivR_2 hv hr]; exact cur_1 (by decide)
      · cases hd : dateB day with
        | false =>
          have h1 := matR_2 hv hd
          have h2 : methR js l day = ([], 2) := by unfold methR; rw [h1]; simp
          unfold matR'; rw [h2]; simp
        | true =>
          have h1 := matR_3 hv hd
          have h2 : methR js l day = (fnI (mthE (f0 l day) js) js.length, 0) := by unfold methR; rw [h1, Int.toNat_natCast, matH_f0]; simp
          unfold matR'; rw [h2, if_pos rfl, if_neg hr]
theorem eqIvl0 (w : World) : (binOp .eql 57 (.agg #[.int .i64 0, .int .i64 0, .int .i64 0]) (.agg #[.int .i64 0, .int .i64 0, .int .i64 0])).run Try.prog w = .ok (.bool true) w := eqIvl 0 0 0 w
set_option maxRecDepth 100000 in
set_option maxHeartbeats 4000000 in
theorem lawSMet_any (js : List Bool) (l : List Hol) (p0 p1 : Int) (ao : Option Addr) (cap b o : Nat) (aol : Option Addr) (capl bl ol : Nat) (w : World) (HJ : Sl w 1 ao js.length cap b o (js.map .bool)) (H : Hols w aol l capl bl ol) (hok : ∀ x ∈ l, x.Ok) :
    Calls Try.prog 12 #[.slice ao js.length cap, .slice aol l.length capl, .agg #[.int .i64 p0, .int .i64 p1]] w fun e w' => e = .returned (.bool true) ∧ Keeps w w' := by


  have hcap := HJ.cap
  have hle := HJ.le
  have hcapl := Sl.cap H
  have hlel := Sl.le H
  have HHJ := Lib.hid HJ
  have HH := Lib.hid H
  have HO := Lib.hid hok
  clear HJ H hok
  obtain ⟨xs, hxs⟩ := isDates_ex l
  obtain ⟨f, hfew⟩ : ∃ f, (decide (js.length ≤ 12) && decide (l.length ≤ 20)) = f := ⟨_, rfl⟩
  cases f with
  | true =>
    have hf2 := hfew
    simp only [Bool.and_eq_true, decide_eq_true_eq] at hf2
    obtain ⟨hj12, hl20⟩ := hf2
    have HJ : Hid (∀ W, Keeps w W → Calls Try.prog 15 #[.slice ao js.length cap] W fun e w' => ∃ ao cap b o, e = .returned (.agg #[.string ⟨#[]⟩, .int .i64 0, .int .i64 0, .int .i64 0, .slice none 0 0, .int .i64 0, .int .i64 0, .int .i64 0, .int .i64 0, .int .i64 0, .int .i64 0, .int .i64 0, .int .i64 0, .int .i64 0, .int .i64 0, .int .i64 0, .int .i64 0, .int .i64 0, .int .i64 0, .int .i64 0, .slice ao js.length cap]) ∧ Ents w' ao js cap b o ∧ Keeps W w') := Lib.hid (fun W hk => joint_any js ao cap b o W (HHJ.out.keeps hk) (by omega))
    by_cases h0 : p0 = 0
    · have h0' : (p0 == 0) = true := by simpa using h0
      clear h0
      go_enter Try.func12, Try.ntmps12
      go_wp2_with (go_at_call 21; refine (sawake_any _).mono ?_; rintro e w1 ⟨rfl, hk1⟩; have K1 := Lib.hid (((Keeps.refl w).alloc _).trans hk1); have x0 := (hk1).cell (p := ⟨w.heap.size, 0, none⟩) (v := .int .i64 p0) (by go_simp); have x1 := (hk1).cell (p := ⟨w.heap.size, 1, none⟩) (v := .int .i64 p1) (by go_simp); have hzx := World.block_lt_of_cell? _ _ x0; clear hk1)
      go_quiet (fail)
      rename_i nq
      go_wp2_with (go_at_call 22; refine (sfew_any _ _ _ _ _ _ _ _ hfew).mono ?_; rintro e wf ⟨rfl, rfl⟩)
      go_ret
      exact ⟨rfl, K1.out.drewN _⟩
    · have h0' : (p0 == 0) = false := by simpa using h0
      rcases scope_meth (js := js) hxs (day := p1) h0 with ⟨re, mv, hre, hr1, hr2⟩ | ⟨k, x, hk, hkl, hv, hd, hr1, hxm, hx1, hx2⟩
      · have HM1 : Hid (∀ W ao cap b o, Keeps w W → Ents W ao js cap b o → Calls Try.prog 31 #[.agg #[.string ⟨#[]⟩, .int .i64 0, .int .i64 0, .int .i64 0, .slice none 0 0, .int .i64 0, .int .i64 0, .int .i64 0, .int .i64 0, .int .i64 0, .int .i64 0, .int .i64 0, .int .i64 0, .int .i64 0, .int .i64 0, .int .i64 0, .int .i64 0, .int .i64 0, .int .i64 0, .int .i64 0, .slice ao js.length cap], .slice aol l.length capl, .int .i64 p0, .int .i64 p1] W fun e w' => e = .returned (.tuple #[.agg #[.int .i64 0, .int .i64 0, .int .i64 0], .int .i64 re]) ∧ Keeps W w') := Lib.hid (fun W ao cap b o hk he => by
          have := cur_any js l xs hxs p0 p1 ao cap b o aol capl bl ol W he (HH.out.keeps hk) (by omega) HO.out
          rw [hr1] at this
          exact this)
        have HM2 : Hid (∀ W ao cap b o, Keeps w W → Ents W ao js cap b o → Calls Try.prog 19 #[.agg #[.string ⟨#[]⟩, .int .i64 0, .int .i64 0, .int .i64 0, .slice none 0 0, .int .i64 0, .int .i64 0, .int .i64 0, .int .i64 0, .int .i64 0, .int .i64 0, .int .i64 0, .int .i64 0, .int .i64 0, .int .i64 0, .int .i64 0, .int .i64 0, .int .i64 0, .int .i64 0, .int .i64 0, .slice ao js.length cap], .slice aol l.length capl, .int .i64 p0, .int .i64 p1] W fun e w' => e = .returned (.tuple #[.int .i64 mv, .int .i64 re]) ∧ Keeps W w') := Lib.hid (fun W ao cap b o hk he => by
          have := met_any js l p0 p1 ao cap b o aol capl bl ol W he (HH.out.keeps hk) (by omega) HO.out
          rw [hr2] at this
          exact this)
        have heq := eqIvl0
        have hre' : (!(re == 0)) = true := by simpa using hre
        have hre2 : (re != 0) = true := by simpa using hre
        have hre3 : (re == 0) = false := by simpa using hre
        have hree : (re == re) = true := by simp
        clear hr1 hr2 hre h0
        go_enter Try.func12, Try.ntmps12
        go_wp2_with (go_at_call 21; refine (sawake_any _).mono ?_; rintro e w1 ⟨rfl, hk1⟩; have K1 := Lib.hid (((Keeps.refl w).alloc _).trans hk1); have x0 := (hk1).cell (p := ⟨w.heap.size, 0, none⟩) (v := .int .i64 p0) (by go_simp); have x1 := (hk1).cell (p := ⟨w.heap.size, 1, none⟩) (v := .int .i64 p1) (by go_simp); have hzx := World.block_lt_of_cell? _ _ x0; clear hk1)
        go_quiet (fail)
        rename_i nq
        replace K1 := Lib.hid (K1.out.drewN nq)
        go_wp2_with (first | (refine wpList_store_mid rfl 33 _ _ rfl w2.heap.size 0 (grpC (.slice ao2 js.length cap2)).toArray rfl rfl (there_new w2 33 (grpC (.slice none 0 0))) groupSize (grpC_one _ _ _) ?_; change wpList _ _ _ _ _ (withG w2 (.slice ao2 js.length cap2)); obtain ⟨w3, hw3⟩ : ∃ w3, withG w2 (.slice ao2 js.length cap2) = w3 := ⟨_, rfl⟩; have hk3 := withG_keeps w2 (.slice ao2 js.length cap2); have hrg := withG_range w2 (.slice ao2 js.length cap2); rw [hw3] at hk3 hrg; have K3 := Lib.hid (K2.out.trans hk3); have HRG := Lib.hid hrg; have HS3 := Lib.hid (HS2.out.keeps hk3); rw [hw3]; skip; clear hk3 hrg hw3) | (refine wpList_load_mid rfl 33 _ rfl w2.heap.size 0 rfl (grpC (.slice ao2 js.length cap2)) _ (World.rangeAt_alloc HRG4.out _) Try.underlying33 rfl groupSize ?_) | (refine wpList_load_mid rfl 33 _ rfl w2.heap.size 0 rfl (grpC (.slice ao2 js.length cap2)) _ HRG.out Try.underlying33 rfl groupSize ?_) | (go_at_call 19; (refine (HM2.out _ _ _ _ _ (K4.out.alloc _) (HE4.out.keeps ((Keeps.refl _).alloc _))).mono ?_); rintro e w5 ⟨rfl, hk5⟩; have K5 := Lib.hid ((K4.out.alloc _).trans hk5); have z0 := hk5.cell (p := ⟨w4.heap.size, 0, none⟩) (v := .int .i64 0) (by go_simp); have z1 := hk5.cell (p := ⟨w4.heap.size, 1, none⟩) (v := .int .i64 0) (by go_simp); have z2 := hk5.cell (p := ⟨w4.heap.size, 2, none⟩) (v := .int .i64 0) (by go_simp); have hzz := World.block_lt_of_cell? _ _ z0; clear hk5) | (go_at_call 31; (refine (HM1.out _ _ _ _ _ K3.out HS3.out).mono ?_); rintro e w4 ⟨rfl, hk4⟩; have K4 := Lib.hid (K3.out.trans hk4); have HE4 := Lib.hid (HS3.out.keeps hk4); have HRG4 := Lib.hid (rangeAt_keeps HRG.out hk4); clear hk4) | (go_at_call 15; (refine (HJ.out _ K1.out).mono ?_); rintro e w2 ⟨ao2, cap2, b2, o2, rfl, hs2, hk2⟩; have HS2 := Lib.hid hs2; have K2 := Lib.hid (K1.out.trans hk2); have hc2 := Sl.cap hs2; have hl2 := Sl.le hs2; skip; clear hs2 hk2) | (go_at_call 22; refine (sfew_any _ _ _ _ _ _ _ _ hfew).mono ?_; rintro e wf ⟨rfl, rfl⟩))
        go_ret
        exact ⟨rfl, K5.out⟩
      · obtain ⟨xa, xb, xc⟩ := x
        obtain ⟨hb1, hb2, hb3⟩ := ivl_to hxs hv k hxm
        have hday := fun d h1 h2 => ivl_day hxs hv k hxm (d := d) h1 h2
        have hahead := ivl_ahead hxs hv k hxm
        simp only at hb1 hb2 hb3 hx1 hx2 hday hahead
        subst hk
        obtain ⟨m, hm⟩ : ∃ m, mAt js l k = m := ⟨_, rfl⟩
        rw [hm] at hday hahead
        have HM1 : Hid (∀ W ao cap b o, Keeps w W → Ents W ao js cap b o → Calls Try.prog 31 #[.agg #[.string ⟨#[]⟩, .int .i64 0, .int .i64 0, .int .i64 0, .slice none 0 0, .int .i64 0, .int .i64 0, .int .i64 0, .int .i64 0, .int .i64 0, .int .i64 0, .int .i64 0, .int .i64 0, .int .i64 0, .int .i64 0, .int .i64 0, .int .i64 0, .int .i64 0, .int .i64 0, .int .i64 0, .slice ao js.length cap], .slice aol l.length capl, .int .i64 (k : Int), .int .i64 p1] W fun e w' => e = .returned (.tuple #[.agg #[.int .i64 xa, .int .i64 xb, .int .i64 xc], .int .i64 0]) ∧ Keeps W w') := Lib.hid (fun W ao cap b o hk he => by
          have := cur_any js l xs hxs (k : Int) p1 ao cap b o aol capl bl ol W he (HH.out.keeps hk) (by omega) HO.out
          rw [hr1] at this
          exact this)
        have HMA : Hid (∀ d v, dateB d = true → m d = v → ∀ W ao cap b o, Keeps w W → Ents W ao js cap b o → Calls Try.prog 19 #[.agg #[.string ⟨#[]⟩, .int .i64 0, .int .i64 0, .int .i64 0, .slice none 0 0, .int .i64 0, .int .i64 0, .int .i64 0, .int .i64 0, .int .i64 0, .int .i64 0, .int .i64 0, .int .i64 0, .int .i64 0, .int .i64 0, .int .i64 0, .int .i64 0, .int .i64 0, .int .i64 0, .int .i64 0, .slice ao js.length cap], .slice aol l.length capl, .int .i64 (k : Int), .int .i64 d] W fun e w' => e = .returned (.tuple #[.int .i64 v, .int .i64 0]) ∧ Keeps W w') := Lib.hid (fun d v hd hv2 W ao cap b o hk he => by
          have := met_any js l (k : Int) d ao cap b o aol capl bl ol W he (HH.out.keeps hk) (by omega) HO.out
          rw [matR'_ok hv hd hkl, hm, hv2] at this
          exact this)
        have A0 := Lib.hid (HMA.out p1 xc hd (hday p1 hx1 hx2))
        have A1 := Lib.hid (HMA.out xa xc (dateB_true.2 ⟨by omega, by omega⟩) (hday xa (Int.le_refl _) hb2))
        have A2 := Lib.hid (HMA.out (xb - 1) xc (dateB_true.2 ⟨by omega, by omega⟩) (hday (xb - 1) (by omega) (by omega)))
        have e1 : decide (p1 < xa) = false := decide_eq_false (by omega)
        have e2 : decide (xb ≤ p1) = false := decide_eq_false (by omega)
        have h0'' : (k == 0) = false := by simpa using h0
        have e0 : decide (k = 0) = false := by simpa using h0
        have hp1 : ¬ (p1 = xa) ∨ p1 = xa := by omega
        by_cases hmin : xa = -25567
        · have hmin' : (xa == -25567) = true := by simpa using hmin
          clear hahead hday hr1 hmin h0 hp1
          go_enter Try.func12, Try.ntmps12
          go_wp2_with (go_at_call 21; refine (sawake_any _).mono ?_; rintro e w1 ⟨rfl, hk1⟩; have K1 := Lib.hid (((Keeps.refl w).alloc _).trans hk1); have x0 := (hk1).cell (p := ⟨w.heap.size, 0, none⟩) (v := .int .i64 (k : Int)) (by go_simp); have x1 := (hk1).cell (p := ⟨w.heap.size, 1, none⟩) (v := .int .i64 p1) (by go_simp); have hzx := World.block_lt_of_cell? _ _ x0; clear hk1)
          go_quiet (fail)
          rename_i nq
          replace K1 := Lib.hid (K1.out.drewN nq)
          go_wp2_with (first | (refine wpList_store_mid rfl 33 _ _ rfl w2.heap.size 0 (grpC (.slice ao2 js.length cap2)).toArray rfl rfl (there_new w2 33 (grpC (.slice none 0 0))) groupSize (grpC_one _ _ _) ?_; change wpList _ _ _ _ _ (withG w2 (.slice ao2 js.length cap2)); obtain ⟨w3, hw3⟩ : ∃ w3, withG w2 (.slice ao2 js.length cap2) = w3 := ⟨_, rfl⟩; have hk3 := withG_keeps w2 (.slice ao2 js.length cap2); have hrg := withG_range w2 (.slice ao2 js.length cap2); rw [hw3] at hk3 hrg; have K3 := Lib.hid (K2.out.trans hk3); have HRG := Lib.hid hrg; have HS3 := Lib.hid (HS2.out.keeps hk3); rw [hw3]; skip; clear hk3 hrg hw3) | (refine wpList_load_mid rfl 33 _ rfl w2.heap.size 0 rfl (grpC (.slice ao2 js.length cap2)) _ HRG7.out Try.underlying33 rfl groupSize ?_) | (refine wpList_load_mid rfl 33 _ rfl w2.heap.size 0 rfl (grpC (.slice ao2 js.length cap2)) _ HRG6.out Try.underlying33 rfl groupSize ?_) | (refine wpList_load_mid rfl 33 _ rfl w2.heap.size 0 rfl (grpC (.slice ao2 js.length cap2)) _ HRG5.out Try.underlying33 rfl groupSize ?_) | (refine wpList_load_mid rfl 33 _ rfl w2.heap.size 0 rfl (grpC (.slice ao2 js.length cap2)) _ (World.rangeAt_alloc HRG4.out _) Try.underlying33 rfl groupSize ?_) | (refine wpList_load_mid rfl 33 _ rfl w2.heap.size 0 rfl (grpC (.slice ao2 js.length cap2)) _ HRG.out Try.underlying33 rfl groupSize ?_) | (go_at_call 19; (refine (A2.out _ _ _ _ _ K6.out HE6.out).mono ?_); rintro e w7 ⟨rfl, hk7⟩; have K7 := Lib.hid (K6.out.trans hk7); have HE7 := Lib.hid (HE6.out.keeps hk7); have HRG7 := Lib.hid (rangeAt_keeps HRG6.out hk7); have y70 := hk7.cell (p := ⟨w4.heap.size, 0, none⟩) (v := .int .i64 xa) (by go_simp); have y71 := hk7.cell (p := ⟨w4.heap.size, 1, none⟩) (v := .int .i64 xb) (by go_simp); have y72 := hk7.cell (p := ⟨w4.heap.size, 2, none⟩) (v := .int .i64 xc) (by go_simp); have hz7 := World.block_lt_of_cell? _ _ y70; clear hk7) | (go_at_call 19; (refine (A1.out _ _ _ _ _ K5.out HE5.out).mono ?_); rintro e w6 ⟨rfl, hk6⟩; have K6 := Lib.hid (K5.out.trans hk6); have HE6 := Lib.hid (HE5.out.keeps hk6); have HRG6 := Lib.hid (rangeAt_keeps HRG5.out hk6); have y60 := hk6.cell (p := ⟨w4.heap.size, 0, none⟩) (v := .int .i64 xa) (by go_simp); have y61 := hk6.cell (p := ⟨w4.heap.size, 1, none⟩) (v := .int .i64 xb) (by go_simp); have y62 := hk6.cell (p := ⟨w4.heap.size, 2, none⟩) (v := .int .i64 xc) (by go_simp); have hz6 := World.block_lt_of_cell? _ _ y60; clear hk6) | (go_at_call 19; (refine (A0.out _ _ _ _ _ (K4.out.alloc _) (HE4.out.keeps ((Keeps.refl _).alloc _))).mono ?_); rintro e w5 ⟨rfl, hk5⟩; have K5 := Lib.hid ((K4.out.alloc _).trans hk5); have HE5 := Lib.hid ((HE4.out.keeps ((Keeps.refl _).alloc _)).keeps hk5); have HRG5 := Lib.hid (rangeAt_keeps (World.rangeAt_alloc HRG4.out _) hk5); have y50 := hk5.cell (p := ⟨w4.heap.size, 0, none⟩) (v := .int .i64 xa) (by go_simp); have y51 := hk5.cell (p := ⟨w4.heap.size, 1, none⟩) (v := .int .i64 xb) (by go_simp); have y52 := hk5.cell (p := ⟨w4.heap.size, 2, none⟩) (v := .int .i64 xc) (by go_simp); have hz5 := World.block_lt_of_cell? _ _ y50; clear hk5) | (go_at_call 31; (refine (HM1.out _ _ _ _ _ K3.out HS3.out).mono ?_); rintro e w4 ⟨rfl, hk4⟩; have K4 := Lib.hid (K3.out.trans hk4); have HE4 := Lib.hid (HS3.out.keeps hk4); have HRG4 := Lib.hid (rangeAt_keeps HRG.out hk4); clear hk4) | (go_at_call 15; (refine (HJ.out _ K1.out).mono ?_); rintro e w2 ⟨ao2, cap2, b2, o2, rfl, hs2, hk2⟩; have HS2 := Lib.hid hs2; have K2 := Lib.hid (K1.out.trans hk2); have hc2 := Sl.cap hs2; have hl2 := Sl.le hs2; skip; clear hs2 hk2) | (go_at_call 22; refine (sfew_any _ _ _ _ _ _ _ _ hfew).mono ?_; rintro e wf ⟨rfl, rfl⟩))
          go_ret
          exact ⟨rfl, K7.out⟩
        · have hmin' : (xa == -25567) = false := by simpa using hmin
          obtain ⟨ha1, ha2⟩ := hahead hmin
          obtain ⟨v8, hv8⟩ : ∃ v8, m (xa - 1) = v8 := ⟨_, rfl⟩
          rw [hv8] at ha2
          have A3 := Lib.hid (HMA.out (xa - 1) v8 (dateB_true.2 ⟨by omega, by omega⟩) hv8)
          have hne8 : (v8 != xc) = true := by simpa using ha2
          have hne8' : (!(v8 == xc)) = true := by simpa using ha2
          have hne9 : (v8 == xc) = false := by simpa using ha2
          clear hday hr1 hmin h0 hahead ha2 hv8 hp1
          go_enter Try.func12, Try.ntmps12
          go_wp2_with (go_at_call 21; refine (sawake_any _).mono ?_; rintro e w1 ⟨rfl, hk1⟩; have K1 := Lib.hid (((Keeps.refl w).alloc _).trans hk1); have x0 := (hk1).cell (p := ⟨w.heap.size, 0, none⟩) (v := .int .i64 (k : Int)) (by go_simp); have x1 := (hk1).cell (p := ⟨w.heap.size, 1, none⟩) (v := .int .i64 p1) (by go_simp); have hzx := World.block_lt_of_cell? _ _ x0; clear hk1)
          go_quiet (fail)
          rename_i nq
          replace K1 := Lib.hid (K1.out.drewN nq)
          go_wp2_with (first | (refine wpList_store_mid rfl 33 _ _ rfl w2.heap.size 0 (grpC (.slice ao2 js.length cap2)).toArray rfl rfl (there_new w2 33 (grpC (.slice none 0 0))) groupSize (grpC_one _ _ _) ?_; change wpList _ _ _ _ _ (withG w2 (.slice ao2 js.length cap2)); obtain ⟨w3, hw3⟩ : ∃ w3, withG w2 (.slice ao2 js.length cap2) = w3 := ⟨_, rfl⟩; have hk3 := withG_keeps w2 (.slice ao2 js.length cap2); have hrg := withG_range w2 (.slice ao2 js.length cap2); rw [hw3] at hk3 hrg; have K3 := Lib.hid (K2.out.trans hk3); have HRG := Lib.hid hrg; have HS3 := Lib.hid (HS2.out.keeps hk3); rw [hw3]; skip; clear hk3 hrg hw3) | (refine wpList_load_mid rfl 33 _ rfl w2.heap.size 0 rfl (grpC (.slice ao2 js.length cap2)) _ HRG7.out Try.underlying33 rfl groupSize ?_) | (refine wpList_load_mid rfl 33 _ rfl w2.heap.size 0 rfl (grpC (.slice ao2 js.length cap2)) _ HRG6.out Try.underlying33 rfl groupSize ?_) | (refine wpList_load_mid rfl 33 _ rfl w2.heap.size 0 rfl (grpC (.slice ao2 js.length cap2)) _ HRG5.out Try.underlying33 rfl groupSize ?_) | (refine wpList_load_mid rfl 33 _ rfl w2.heap.size 0 rfl (grpC (.slice ao2 js.length cap2)) _ (World.rangeAt_alloc HRG4.out _) Try.underlying33 rfl groupSize ?_) | (refine wpList_load_mid rfl 33 _ rfl w2.heap.size 0 rfl (grpC (.slice ao2 js.length cap2)) _ HRG.out Try.underlying33 rfl groupSize ?_) | (go_at_call 19; (refine (A3.out _ _ _ _ _ K7.out HE7.out).mono ?_); rintro e w8 ⟨rfl, hk8⟩; have K8 := Lib.hid (K7.out.trans hk8); have HE8 := Lib.hid (HE7.out.keeps hk8); have HRG8 := Lib.hid (rangeAt_keeps HRG7.out hk8); have y80 := hk8.cell (p := ⟨w4.heap.size, 0, none⟩) (v := .int .i64 xa) (by go_simp); have y81 := hk8.cell (p := ⟨w4.heap.size, 1, none⟩) (v := .int .i64 xb) (by go_simp); have y82 := hk8.cell (p := ⟨w4.heap.size, 2, none⟩) (v := .int .i64 xc) (by go_simp); have hz8 := World.block_lt_of_cell? _ _ y80; clear hk8) | (go_at_call 19; (refine (A2.out _ _ _ _ _ K6.out HE6.out).mono ?_); rintro e w7 ⟨rfl, hk7⟩; have K7 := Lib.hid (K6.out.trans hk7); have HE7 := Lib.hid (HE6.out.keeps hk7); have HRG7 := Lib.hid (rangeAt_keeps HRG6.out hk7); have y70 := hk7.cell (p := ⟨w4.heap.size, 0, none⟩) (v := .int .i64 xa) (by go_simp); have y71 := hk7.cell (p := ⟨w4.heap.size, 1, none⟩) (v := .int .i64 xb) (by go_simp); have y72 := hk7.cell (p := ⟨w4.heap.size, 2, none⟩) (v := .int .i64 xc) (by go_simp); have hz7 := World.block_lt_of_cell? _ _ y70; clear hk7) | (go_at_call 19; (refine (A1.out _ _ _ _ _ K5.out HE5.out).mono ?_); rintro e w6 ⟨rfl, hk6⟩; have K6 := Lib.hid (K5.out.trans hk6); have HE6 := Lib.hid (HE5.out.keeps hk6); have HRG6 := Lib.hid (rangeAt_keeps HRG5.out hk6); have y60 := hk6.cell (p := ⟨w4.heap.size, 0, none⟩) (v := .int .i64 xa) (by go_simp); have y61 := hk6.cell (p := ⟨w4.heap.size, 1, none⟩) (v := .int .i64 xb) (by go_simp); have y62 := hk6.cell (p := ⟨w4.heap.size, 2, none⟩) (v := .int .i64 xc) (by go_simp); have hz6 := World.block_lt_of_cell? _ _ y60; clear hk6) | (go_at_call 19; (refine (A0.out _ _ _ _ _ (K4.out.alloc _) (HE4.out.keeps ((Keeps.refl _).alloc _))).mono ?_); rintro e w5 ⟨rfl, hk5⟩; have K5 := Lib.hid ((K4.out.alloc _).trans hk5); have HE5 := Lib.hid ((HE4.out.keeps ((Keeps.refl _).alloc _)).keeps hk5); have HRG5 := Lib.hid (rangeAt_keeps (World.rangeAt_alloc HRG4.out _) hk5); have y50 := hk5.cell (p := ⟨w4.heap.size, 0, none⟩) (v := .int .i64 xa) (by go_simp); have y51 := hk5.cell (p := ⟨w4.heap.size, 1, none⟩) (v := .int .i64 xb) (by go_simp); have y52 := hk5.cell (p := ⟨w4.heap.size, 2, none⟩) (v := .int .i64 xc) (by go_simp); have hz5 := World.block_lt_of_cell? _ _ y50; clear hk5) | (go_at_call 31; (refine (HM1.out _ _ _ _ _ K3.out HS3.out).mono ?_); rintro e w4 ⟨rfl, hk4⟩; have K4 := Lib.hid (K3.out.trans hk4); have HE4 := Lib.hid (HS3.out.keeps hk4); have HRG4 := Lib.hid (rangeAt_keeps HRG.out hk4); clear hk4) | (go_at_call 15; (refine (HJ.out _ K1.out).mono ?_); rintro e w2 ⟨ao2, cap2, b2, o2, rfl, hs2, hk2⟩; have HS2 := Lib.hid hs2; have K2 := Lib.hid (K1.out.trans hk2); have hc2 := Sl.cap hs2; have hl2 := Sl.le hs2; skip; clear hs2 hk2) | (go_at_call 22; refine (sfew_any _ _ _ _ _ _ _ _ hfew).mono ?_; rintro e wf ⟨rfl, rfl⟩))
          go_ret
          exact ⟨rfl, K8.out⟩
  | false =>
    go_enter Try.func12, Try.ntmps12
    go_wp2_with (go_at_call 21; refine (sawake_any _).mono ?_; rintro e w1 ⟨rfl, hk1⟩; have K1 := Lib.hid (((Keeps.refl w).alloc _).trans hk1); have x0 := (hk1).cell (p := ⟨w.heap.size, 0, none⟩) (v := .int .i64 p0) (by go_simp); have x1 := (hk1).cell (p := ⟨w.heap.size, 1, none⟩) (v := .int .i64 p1) (by go_simp); have hzx := World.block_lt_of_cell? _ _ x0; clear hk1)
    go_quiet (fail)
    rename_i nq
    go_wp2_with (go_at_call 22; refine (sfew_any _ _ _ _ _ _ _ _ hfew).mono ?_; rintro e wf ⟨rfl, rfl⟩)
    go_ret
    exact ⟨rfl, K1.out.drewN _⟩
end Go.Proofs.Ytkpdimbblcmnaaa
