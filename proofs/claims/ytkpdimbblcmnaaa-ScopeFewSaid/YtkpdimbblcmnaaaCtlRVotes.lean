/- The reference's Votes: the walk. -/
import Derived.Test.YtkpdimbblcmnaaaCtlCtl
import Derived.Test.YtkpdimbblcmnaaaCtlVotesW
import Derived.StillTailTactics
namespace Go.Proofs.Ytkpdimbblcmnaaa
open Go.RowKit
set_option linter.unusedSimpArgs false
set_option linter.unusedVariables false

theorem vote_rk (f : Nat → Nat → Int) (n h e : Nat) : voteK f (inA f n n) e (h + 1) = voteK f (inA f n n) e h + (if 0 ≤ rkA f n n h then f h e else 0) := by
  simp only [voteK]
  have := rk_in f n h
  by_cases h0 : 0 ≤ rkA f n n h
  · rw [if_pos h0, ← this, decide_eq_true h0]; rfl
  · rw [if_neg h0, ← this, decide_eq_false h0]; rfl
theorem RkW.drew {w W : World} {n : Nat} {φ : Nat → Int} (h : RkW w W n φ) : RkW w W.drew n φ := ⟨h.1, h.2.drew⟩
/-- Row h being added, up to e. -/
def vtW (f : Nat → Nat → Int) (n h e : Nat) : Nat → Int := fun i => if i < e then voteK f (inA f n n) i (h + 1) else voteK f (inA f n n) i h
set_option maxRecDepth 100000 in
set_option maxHeartbeats 4000000 in
theorem rvotes_any (n : Int) (l : List Hol) (day : Int) (ao : Option Addr) (cap b o : Nat) (w : World) (H : Hols w ao l cap b o) (hlen : l.length ≤ 900) :
    Calls Try.prog 36 #[.int .i64 n, .slice ao l.length cap, .int .i64 day] w (OutL w (votesR n l day).1 (votesR n l day).2) := by
  have hm0 := rmatrix_any n ao l cap b o day w H hlen
  rcases mat_cases n l day with ⟨m, rfl, hm1, hm, hv, hq1, hq2, hq3⟩ | ⟨re, h0, hq1, hq2, hq3⟩
  · have hq4 : votesR (m : Int) l day = (fnI (fun e => voteK (f0 l day) (inA (f0 l day) m m) e m) m, 0) := by unfold votesR; rw [hq1]; simp
    unfold OutRows at hm0
    rw [hq1] at hm0
    simp only [matF_len] at hm0
    rw [hq4]
    have HM := Lib.hid hm0
    have HFB := Lib.hid (f0_bd hv day)
    obtain ⟨i0, hi, hz0, hz1, hz2⟩ := info_parts infoIntC
    clear hm0 hv hq1 hq2 hq3 hq4 H
    go_enter Try.func36, Try.ntmps36
    go_wp2_with (first | (go_at_call 50; refine (ranks_any (f0 l day) m hm1 hm HFB.out ao1 cap1 b1 o1 w1 HS1.out).mono ?_; rintro e2 w2 ⟨ao2, cap2, b2, o2, rfl, hs2, hk2⟩; have HS2 := Lib.hid hs2; have K2 := Lib.hid hk2; have HS12 := Lib.hid (HS1.out.keeps hk2); have hc2 := hs2.cap; have hl2 := hs2.le; clear hs2 hk2) | (go_at_call 49; refine HM.out.mono ?_; rintro e1 w1 ⟨ao1, cap1, b1, o1, rfl, hs1, hk1⟩; have HS1 := Lib.hid hs1; have K1 := Lib.hid hk1; have hc1 := hs1.cap; have hl1 := hs1.le; rw [matF_len] at hl1; clear hs1 hk1) | (at_make; refine wpList_makeZ _ rfl _ _ 35 rfl 3 i0 (.int .i64 0) Try.underlying35 hi hz0 hz1 rfl _ _ _ _ m rfl rfl rfl rfl (by rw [hz2]; omega) (by omega) ?_))
    have HR0 : Hid (RkW w2 (w2.alloc (Obj.cells (Array.replicate m (Value.int IntKind.i64 0)) 3)) m (fun _ => 0)) := Lib.hid ⟨by
      rw [← rowI_zero]
      have := RowB.new w2 3 (List.replicate m (.int .i64 0))
      simpa using this, (Keeps.refl w2).alloc _⟩
    go_loopw [12] (fun vi wy => ∃ h : Nat, h ≤ m ∧ vi = .int .i64 h ∧ Hid (RkW w2 wy m (fun e => voteK (f0 l day) (inA (f0 l day) m m) e h))) (fun vi _ => m - (intOf vi).toNat)
    case atStart => exact ⟨0, Nat.zero_le _, rfl, HR0⟩
    case round =>
      obtain ⟨h, hh, rfl, HX⟩ := hrel
      by_cases hlt : h < m
      · go_wp2_with fail
        go_loopw [13] (fun vi wy => ∃ e : Nat, e ≤ m ∧ vi = .int .i64 e ∧ Hid (RkW w2 wy m (vtW (f0 l day) m h e))) (fun vi _ => m - (intOf vi).toNat)
        case atStart => exact ⟨0, Nat.zero_le _, rfl, Lib.hid (HX.out.congr fun i _ => by unfold vtW; rw [if_neg (Nat.not_lt_zero _)])⟩
        case round =>
          obtain ⟨e, he, rfl, HE⟩ := hrel
          by_cases hle2 : e < m
          · obtain ⟨ao3, cap3, b3, o3, m0, h2, h3, h4, h5⟩ := matF_at (HS12.out.keeps HE.out.2) h hlt
            have hix := matF_ix HS12.out h hlt
            have hiy := h5 e hle2
            have m1 := h4 e hle2
            have r1 := fnI_cell (HS2.out.keeps HE.out.2) h hlt
            have hir := HS2.out.at1 Try.underlying35 Try.sizeOf3 h hlt
            have c0 := HE.out.1.cell e _ (rowI_get _ _ _ hle2)
            have f0' := HE.out.1.frozen e
            have hb0 := HE.out.1.lt
            have hvt := vote_rk (f0 l day) m h e
            have hv0 : vtW (f0 l day) m h e e = voteK (f0 l day) (inA (f0 l day) m m) e h := by unfold vtW; rw [if_neg (Nat.lt_irrefl _)]
            rw [hv0] at c0
            have hb1 := voteK_bd HFB.out (inA (f0 l day) m m) e h
            have hb2 := HFB.out h e
            obtain ⟨r, hr⟩ : ∃ r, rkA (f0 l day) m m h = r := ⟨_, rfl⟩
            obtain ⟨t, ht⟩ : ∃ t, voteK (f0 l day) (inA (f0 l day) m m) e h = t := ⟨_, rfl⟩
            obtain ⟨x, hx⟩ : ∃ x, f0 l day h e = x := ⟨_, rfl⟩
            rw [hr, ht, hx] at hvt
            rw [hr] at r1
            rw [ht] at c0 hb1
            rw [hx] at m1 hb2
            obtain ⟨hb3, hb4⟩ := hb1
            obtain ⟨hb5, hb6⟩ := hb2
            have hb7 : t ≤ 120000 := by omega
            clear h4 h5 hr hv0 hb4
            by_cases hr0 : 0 ≤ r
            · have rr : decide (0 ≤ r) = true := decide_eq_true hr0
              rw [if_pos hr0] at hvt
              have HN : Hid (∀ i, updI (vtW (f0 l day) m h e) e (t + x) i = vtW (f0 l day) m h (e + 1) i) := Lib.hid (fun i => ups_yes (A := fun i => voteK (f0 l day) (inA (f0 l day) m m) i (h + 1)) (F := fun i => voteK (f0 l day) (inA (f0 l day) m m) i h) hvt i)
              clear hvt ht hx
              go_wp2_with fail
              go_still_tail 15, (by kernel_rfl)
              change wpList _ _ _ _ _ wr.drew
              go_wp2_with fail
              go_roundw
              case rel => exact ⟨e + 1, by omega, by go_num, Lib.hid (RkW.drew (RkW.congr (HE.out.set e (t + x)) fun i _ => HN.out i))⟩
              case measure => simp [intOf]; omega
            · have rr : decide (0 ≤ r) = false := decide_eq_false hr0
              rw [if_neg hr0] at hvt
              have HN : Hid (∀ i, vtW (f0 l day) m h e i = vtW (f0 l day) m h (e + 1) i) := Lib.hid (fun i => ups_no (A := fun i => voteK (f0 l day) (inA (f0 l day) m m) i (h + 1)) (F := fun i => voteK (f0 l day) (inA (f0 l day) m m) i h) (j := e) (by rw [hvt, ht]; omega) i)
              clear hvt ht hx
              go_wp2_with fail
              go_roundw
              case rel => exact ⟨e + 1, by omega, by go_num, Lib.hid (HE.out.congr fun i _ => HN.out i)⟩
              case measure => simp [intOf]; omega
          · obtain rfl : e = m := by omega
            have HZ : Hid (RkW w2 wr e (fun i => voteK (f0 l day) (inA (f0 l day) e e) i (h + 1))) := Lib.hid (HE.out.congr fun i hi => by unfold vtW; rw [if_pos hi])
            go_wp2_with fail
            go_roundw
            case rel => exact ⟨h + 1, by omega, by go_num, HZ⟩
            case measure => simp [intOf]; omega
      · obtain rfl : h = m := by omega
        go_wp2_with fail
        go_ret2
        refine ⟨some ⟨w2.heap.size, 0, none⟩, h, w2.heap.size, 0, by simp only [fnI_len]; rfl, ?_, K1.out.trans (K2.out.trans HX.out.2)⟩
        simp only [fnI_len]
        exact HX.out.1.slI (by omega)
  · have hq4 : votesR n l day = ([], re) := by unfold votesR; rw [hq1, if_neg h0]
    unfold OutRows at hm0
    rw [hq1] at hm0
    rw [hq4]
    have HM := Lib.hid hm0
    have e2 : (!(re == 0)) = true := by simpa using h0
    clear hm0 hq1 hq2 hq3 hq4 H
    go_enter Try.func36, Try.ntmps36
    go_wp2_with (go_at_call 49; refine HM.out.mono ?_; rintro e1 w1 ⟨ao1, cap1, b1, o1, rfl, hs1, hk1⟩; have K1 := Lib.hid hk1; clear hs1 hk1)
    go_ret2
    exact ⟨none, 0, 0, 0, rfl, Sl.nil _ _, K1.out⟩
end Go.Proofs.Ytkpdimbblcmnaaa
