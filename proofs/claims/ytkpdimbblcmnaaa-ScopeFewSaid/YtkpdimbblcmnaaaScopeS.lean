/- The reference's Current; Parts; Same: the walks. -/
import Derived.Test.YtkpdimbblcmnaaaScopeR
import Derived.Deep.RegionLaw
namespace Go.Proofs.Ytkpdimbblcmnaaa
open Go.RowKit
set_option linter.unusedSimpArgs false
set_option linter.unusedVariables false

set_option maxRecDepth 100000 in
set_option maxHeartbeats 4000000 in
theorem rcur_any (js : List Bool) (l : List Hol) (xs : List Int) (hxs : IsDates l xs) (en day : Int) (ao : Option Addr) (cap b o : Nat) (aol : Option Addr) (capl bl ol : Nat) (w : World) (HJ : Ents w ao js cap b o) (H : Hols w aol l capl bl ol) (hlen : l.length ≤ 900) :
    Calls Try.prog 32 #[.agg #[.string ⟨#[]⟩, .int .i64 0, .int .i64 0, .int .i64 0, .slice none 0 0, .int .i64 0, .int .i64 0, .int .i64 0, .int .i64 0, .int .i64 0, .int .i64 0, .int .i64 0, .int .i64 0, .int .i64 0, .int .i64 0, .int .i64 0, .int .i64 0, .int .i64 0, .int .i64 0, .int .i64 0, .slice ao js.length cap], .slice aol l.length capl, .int .i64 en, .int .i64 day] w fun e w' => e = .returned (.tuple #[(curR (ivR js l xs en) day).1.val, .int .i64 (curR (ivR js l xs en) day).2]) ∧ Keeps w w' := by
  have hall := fun W (hk : Keeps w W) => rivals_any js l xs hxs en ao cap b o aol capl bl ol W (HJ.keeps hk) (H.keeps hk) hlen
  have hcap := Sl.cap HJ
  have hle := Sl.le HJ
  have hload := (((RowB.new w 33 (grpC (.slice ao js.length cap))).alloc (.cells #[.int .i64 0, .int .i64 0, .int .i64 0] 57))).range
  obtain ⟨⟨rl, re⟩, hr⟩ : ∃ r, ivR js l xs en = r := ⟨_, rfl⟩
  rw [hr] at hall ⊢
  have HI : Hid (∀ W, Keeps w W → Calls Try.prog 24 #[.agg #[.string ⟨#[]⟩, .int .i64 0, .int .i64 0, .int .i64 0, .slice none 0 0, .int .i64 0, .int .i64 0, .int .i64 0, .int .i64 0, .int .i64 0, .int .i64 0, .int .i64 0, .int .i64 0, .int .i64 0, .int .i64 0, .int .i64 0, .int .i64 0, .int .i64 0, .int .i64 0, .int .i64 0, .slice ao js.length cap], .slice aol l.length capl, .int .i64 en] W fun e w' => ∃ ao cap b o, e = .returned (.tuple #[.slice ao rl.length cap, .int .i64 re]) ∧ Ivls w' ao rl cap b o ∧ Keeps W w') := Lib.hid hall
  clear hall hr HJ H
  by_cases h0 : re = 0
  · subst h0
    obtain ⟨vd, hvd⟩ : ∃ vd, dateB day = vd := ⟨_, rfl⟩
    have HD : Hid (∀ W, Calls Try.prog 28 #[.int .i64 day] W fun e w' => e = .returned (.bool vd) ∧ W = w') := Lib.hid (fun W => by have := hrdate_any day W; rw [hvd] at this; exact this)
    have HVD := Lib.hid hvd
    clear hvd
    cases vd with
    | false =>
      have HC := Lib.hid (cur_2 (curI_miss (l := rl) (d := day) fun h j hj => by rw [HVD.out] at h; cases h))
      go_enter Try.func32, Try.ntmps32
      go_wp2_with (first | (refine wpList_load_mid rfl 33 _ rfl w.heap.size 0 rfl (grpC (.slice ao js.length cap)) _ hload Try.underlying33 rfl groupSize ?_) | (go_at_call 24; (refine (HI.out _ (((Keeps.refl w).alloc _).alloc _)).mono ?_); rintro e w2 ⟨ao2, cap2, b2, o2, rfl, hs2, hk2⟩; have K2 := Lib.hid hk2; have HS2 := Lib.hid hs2; have hc2 := Sl.cap hs2; have hl2 := Sl.le hs2; have hx2 : IvX w2 (w.heap.size + 1) ⟨0, 0, 0⟩ := RowB.keeps (by have := RowB.new (w.alloc (.cells (grpC (.slice ao js.length cap)).toArray 33)) 57 (Ivl.cells ⟨0, 0, 0⟩); rw [World.size_alloc] at this; exact this) hk2; have HX2 := Lib.hid hx2; have x0 := RowB.cell hx2 0 _ rfl; have x1 := RowB.cell hx2 1 _ rfl; have x2 := RowB.cell hx2 2 _ rfl; have y0 := RowB.frozen hx2 0; have y1 := RowB.frozen hx2 1; have y2 := RowB.frozen hx2 2; have z0 := RowB.lt hx2; clear hs2 hk2 hx2) | (go_at_call 28; refine (HD.out _).mono ?_; rintro e w5 ⟨rfl, rfl⟩))
      refine bodyPost_ret (results_row_tmp rfl _ _ (w.heap.size + 1) (Ivl.cells ⟨0, 0, 0⟩) _ rfl (RowB.range (IvX.set HX2.out ⟨0, 0, 0⟩)) Try.underlying57 rfl ivlSize) rfl ?_
      rw [HC.out]
      exact ⟨rfl, keeps_row3 ((((Keeps.refl w).alloc _).alloc _).trans K2.out) (Nat.le_succ _) _ _ _⟩
    | true =>
      go_enter Try.func32, Try.ntmps32
      go_wp2_with (first | (refine wpList_load_mid rfl 33 _ rfl w.heap.size 0 rfl (grpC (.slice ao js.length cap)) _ hload Try.underlying33 rfl groupSize ?_) | (go_at_call 24; (refine (HI.out _ (((Keeps.refl w).alloc _).alloc _)).mono ?_); rintro e w2 ⟨ao2, cap2, b2, o2, rfl, hs2, hk2⟩; have K2 := Lib.hid hk2; have HS2 := Lib.hid hs2; have hc2 := Sl.cap hs2; have hl2 := Sl.le hs2; have hx2 : IvX w2 (w.heap.size + 1) ⟨0, 0, 0⟩ := RowB.keeps (by have := RowB.new (w.alloc (.cells (grpC (.slice ao js.length cap)).toArray 33)) 57 (Ivl.cells ⟨0, 0, 0⟩); rw [World.size_alloc] at this; exact this) hk2; have HX2 := Lib.hid hx2; have x0 := RowB.cell hx2 0 _ rfl; have x1 := RowB.cell hx2 1 _ rfl; have x2 := RowB.cell hx2 2 _ rfl; have y0 := RowB.frozen hx2 0; have y1 := RowB.frozen hx2 1; have y2 := RowB.frozen hx2 2; have z0 := RowB.lt hx2; clear hs2 hk2 hx2) | (go_at_call 28; refine (HD.out _).mono ?_; rintro e w5 ⟨rfl, rfl⟩))
      go_loopw [12] (fun vi wr => ∃ k : Nat, k ≤ rl.length ∧ vi = .int .i64 k ∧ Hid (wr = w2 ∧ ∀ j (hj : j < rl.length), j < k → dateB day = true → inI day rl[j] = false)) (fun vi _ => rl.length - (intOf vi).toNat)
      case atStart => exact ⟨0, Nat.zero_le _, rfl, Lib.hid ⟨rfl, fun j _ hj => absurd hj (Nat.not_lt_zero _)⟩⟩
      case round =>
        obtain ⟨k, hk, rfl, HX⟩ := hrel
        obtain rfl := HX.out.1
        by_cases hlt : k < rl.length
        · have c0 := HS2.out.cell Ivl.len k hlt 0 _ rfl
          have c1 := HS2.out.cell Ivl.len k hlt 1 _ rfl
          have c2 := HS2.out.cell Ivl.len k hlt 2 _ rfl
          have hix := Sl.at HS2.out Try.underlying47 Try.sizeOf57 k hlt
          simp only [Nat.add_zero] at c0
          have hlb := World.block_lt_of_cell? _ _ c0
          obtain ⟨z, hz⟩ : ∃ z, rl[k] = z := ⟨_, rfl⟩
          have HZ := Lib.hid hz
          rw [hz] at c0 c1 c2
          clear hz
          by_cases h1 : z.frm ≤ day
          · have h1' : decide (z.frm ≤ day) = true := decide_eq_true h1
            by_cases h2 : day < z.to
            · have h2' : decide (day < z.to) = true := decide_eq_true h2
              have HC : Hid (curI rl day = some z) := Lib.hid (by
                have := curI_hit HVD.out hlt (fun j hj hjk => HX.out.2 j hj hjk HVD.out) (by rw [HZ.out]; simp [inI, h1, h2])
                rw [HZ.out] at this; exact this)
              go_wp2_with fail
              refine bodyPost_ret (results_row_tmp rfl _ _ (w.heap.size + 1) z.cells _ rfl (RowB.range (IvX.set HX2.out z)) Try.underlying57 rfl ivlSize) rfl ?_
              rw [cur_3 HC.out]
              exact ⟨rfl, keeps_row3 ((((Keeps.refl w).alloc _).alloc _).trans K2.out) (Nat.le_succ _) _ _ _⟩
            · have h2' : decide (day < z.to) = false := decide_eq_false h2
              have HN : Hid (∀ j (hj : j < rl.length), j < k + 1 → dateB day = true → inI day rl[j] = false) := Lib.hid (fun j hj hjk h => by
                by_cases e : j = k
                · subst e; rw [HZ.out]; simp [inI, h2]
                · exact HX.out.2 j hj (by omega) h)
              go_wp2_with fail
              go_roundw
              case rel => exact ⟨k + 1, by omega, by go_num, Lib.hid ⟨by first | rfl | trivial, HN.out⟩⟩
              case measure => simp [intOf]; omega
          · have h1' : decide (z.frm ≤ day) = false := decide_eq_false h1
            have HN : Hid (∀ j (hj : j < rl.length), j < k + 1 → dateB day = true → inI day rl[j] = false) := Lib.hid (fun j hj hjk h => by
              by_cases e : j = k
              · subst e; rw [HZ.out]; simp [inI, h1]
              · exact HX.out.2 j hj (by omega) h)
            go_wp2_with fail
            go_roundw
            case rel => exact ⟨k + 1, by omega, by go_num, Lib.hid ⟨by first | rfl | trivial, HN.out⟩⟩
            case measure => simp [intOf]; omega
        · obtain rfl : k = rl.length := by omega
          have HC := Lib.hid (cur_2 (curI_miss (l := rl) (d := day) fun h j hj => HX.out.2 j hj hj h))
          go_wp2_with fail
          refine bodyPost_ret (results_row_tmp rfl _ _ (w.heap.size + 1) (Ivl.cells ⟨0, 0, 0⟩) _ rfl (RowB.range (IvX.set HX2.out ⟨0, 0, 0⟩)) Try.underlying57 rfl ivlSize) rfl ?_
          rw [HC.out]
          exact ⟨rfl, keeps_row3 ((((Keeps.refl w).alloc _).alloc _).trans K2.out) (Nat.le_succ _) _ _ _⟩
  · have HQ := Lib.hid (cur_1 (r := (rl, re)) (d := day) h0)
    have e3 : (!(re == 0)) = true := by simpa using h0
    go_enter Try.func32, Try.ntmps32
    go_wp2_with (first | (refine wpList_load_mid rfl 33 _ rfl w.heap.size 0 rfl (grpC (.slice ao js.length cap)) _ hload Try.underlying33 rfl groupSize ?_) | (go_at_call 24; (refine (HI.out _ (((Keeps.refl w).alloc _).alloc _)).mono ?_); rintro e w2 ⟨ao2, cap2, b2, o2, rfl, hs2, hk2⟩; have K2 := Lib.hid hk2; have HS2 := Lib.hid hs2; have hc2 := Sl.cap hs2; have hl2 := Sl.le hs2; have hx2 : IvX w2 (w.heap.size + 1) ⟨0, 0, 0⟩ := RowB.keeps (by have := RowB.new (w.alloc (.cells (grpC (.slice ao js.length cap)).toArray 33)) 57 (Ivl.cells ⟨0, 0, 0⟩); rw [World.size_alloc] at this; exact this) hk2; have HX2 := Lib.hid hx2; have x0 := RowB.cell hx2 0 _ rfl; have x1 := RowB.cell hx2 1 _ rfl; have x2 := RowB.cell hx2 2 _ rfl; have y0 := RowB.frozen hx2 0; have y1 := RowB.frozen hx2 1; have y2 := RowB.frozen hx2 2; have z0 := RowB.lt hx2; clear hs2 hk2 hx2))
    refine bodyPost_ret (results_row_tmp rfl _ _ (w.heap.size + 1) (Ivl.cells ⟨0, 0, 0⟩) _ rfl (RowB.range (IvX.set HX2.out ⟨0, 0, 0⟩)) Try.underlying57 rfl ivlSize) rfl ?_
    rw [HQ.out]
    exact ⟨rfl, keeps_row3 ((((Keeps.refl w).alloc _).alloc _).trans K2.out) (Nat.le_succ _) _ _ _⟩
/-- Lists of intervals are compared. -/
theorem ivl_ext {a b : Ivl} (h0 : a.frm = b.frm) (h1 : a.to = b.to) (h2 : a.mth = b.mth) : a = b := by cases a; cases b; simp_all
end Go.Proofs.Ytkpdimbblcmnaaa
