/- The reference's Matrix: the walk. -/
import Derived.Test.YtkpdimbblcmnaaaHolMatW
namespace Go.Proofs.Ytkpdimbblcmnaaa
open Go.RowKit
set_option linter.unusedSimpArgs false
set_option linter.unusedVariables false

set_option maxRecDepth 100000 in
set_option maxHeartbeats 4000000 in
theorem rmatrix_any (n : Int) (ao : Option Addr) (l : List Hol) (cap b o : Nat) (day : Int) (w : World) (H : Hols w ao l cap b o) (hlen : l.length ≤ 900) :
    Calls Try.prog 49 #[.int .i64 n, .slice ao l.length cap, .int .i64 day] w (OutRows w (matR n l day)) := by
  have hcap := Sl.cap H
  have hle := Sl.le H
  have HH := Lib.hid H
  obtain ⟨vl, hvl⟩ : ∃ vl, hvalidB n l = vl := ⟨_, rfl⟩
  obtain ⟨vd, hvd⟩ : ∃ vd, dateB day = vd := ⟨_, rfl⟩
  have HV : Hid (Calls Try.prog 39 #[.int .i64 n, .slice ao l.length cap] w fun e w' => e = .returned (.bool vl) ∧ Keeps w w') := Lib.hid (by have := hrvalid_any n ao l cap b o w H (by omega); rw [hvl] at this; exact this)
  have HD : Hid (∀ W, Calls Try.prog 28 #[.int .i64 day] W fun e w' => e = .returned (.bool vd) ∧ W = w') := Lib.hid (fun W => by have := hrdate_any day W; rw [hvd] at this; exact this)
  clear H
  cases vl with
  | false =>
    have HQ := Lib.hid (matR_1 (day := day) hvl)
    clear hvl hvd
    go_enter Try.func49, Try.ntmps49
    go_wp2_with (go_at_call 39; refine HV.out.mono ?_; rintro e1 w1 ⟨rfl, hk1⟩; have K1 := Lib.hid hk1; clear hk1)
    go_ret2
    exact OutRows.nil HQ.out K1.out
  | true =>
    cases vd with
    | false =>
      have HQ := Lib.hid (matR_2 hvl hvd)
      clear hvl hvd
      go_enter Try.func49, Try.ntmps49
      go_wp2_with (first | (go_at_call 28; refine (HD.out _).mono ?_; rintro e2 w2 ⟨rfl, rfl⟩) | (go_at_call 39; refine HV.out.mono ?_; rintro e1 w1 ⟨rfl, hk1⟩; have K1 := Lib.hid hk1; clear hk1))
      go_ret2
      exact OutRows.nil HQ.out K1.out
    | true =>
      obtain ⟨hn1, hn2⟩ := hvalidB_n hvl
      have HQ := Lib.hid (matR_3 hvl hvd)
      obtain ⟨m, rfl⟩ : ∃ m : Nat, n = (m : Int) := ⟨n.toNat, by omega⟩
      have hm12 : m ≤ 12 := by omega
      clear hvl hvd hn1 hn2
      go_enter Try.func49, Try.ntmps49
      go_wp2_with (first | (go_at_call 28; refine (HD.out _).mono ?_; rintro e2 w2 ⟨rfl, rfl⟩) | (go_at_call 39; refine HV.out.mono ?_; rintro e1 w1 ⟨rfl, hk1⟩; have K1 := Lib.hid hk1; clear hk1))
      go_loopw [8, 9] (fun vs vi wy => ∃ (k : Nat) (vv : List Value), k ≤ m ∧ vi = .int .i64 k ∧ Hid (Keeps w1 wy ∧ wy.ownsRow w1.heap.size 35 1 vs k vv ∧ RowsG wy vs.ownBlock vv (rowsH l m k day))) (fun _ vi _ => m - (intOf vi).toNat)
      case atStart => exact ⟨0, [], Nat.zero_le _, rfl, Lib.hid ⟨Keeps.refl _, World.ownsRow_nil _ _ _ _, RowsG.nil _ _⟩⟩
      case round =>
        obtain ⟨k, vv, hk, rfl, HX⟩ := hrel
        obtain ⟨wo, rfl⟩ : ∃ wo : World, wo = wr := ⟨_, rfl⟩
        by_cases hlt : k < m
        · go_wp2_with fail
          go_loopw [10, 11] (fun vs2 vi2 wy => ∃ (j : Nat), j ≤ m ∧ vi2 = .int .i64 j ∧ Hid (Keeps wo wy ∧ wy.ownsRow wo.heap.size 3 1 vs2 j ((rowH l j (k : Int) day).map (.int .i64)))) (fun _ vi2 _ => m - (intOf vi2).toNat)
          case atStart => exact ⟨0, Nat.zero_le _, rfl, Lib.hid ⟨Keeps.refl _, World.ownsRow_nil _ _ _ _⟩⟩
          case round =>
            obtain ⟨j, hj, rfl, HY⟩ := hrel
            by_cases hlj : j < m
            · have HS := Lib.hid (rowH_snoc l j (k : Int) day)
              go_wp2_with (first | (go_at_call 29; refine (rhat_any ao l cap b o (k : Int) (j : Int) day _ (HH.out.keeps (K1.out.trans (HX.out.1.trans HY.out.1)))).mono ?_; rintro e4 w4 ⟨rfl, hk4⟩; have HZ := Lib.hid (And.intro (HY.out.1.trans hk4) (own_keepsH HY.out.2 hk4)); clear hk4) | (at_builtin; refine wpList_appx elemInt rfl _ _ rfl wo _ _ _ rfl wo.heap.size HZ.out.2 HZ.out.1 HZ.out.1.size [.int .i64 (atH l (k : Int) (j : Int) day)] _ 1 rfl rfl rfl (by intro u hu; simp at hu; subst hu; rfl) (by omega) (by omega) ?_; intro v5 w5 hown5 hb5 hsz5; have HV5 : Hid (Keeps wo w5 ∧ w5.ownsRow wo.heap.size 3 1 v5 (j + 1) ((rowH l (j + 1) (k : Int) day).map (.int .i64))) := Lib.hid ⟨hb5, by rw [HS.out, List.map_append]; exact hown5⟩; clear hown5 hb5 hsz5))
              go_roundw
              case rel => exact ⟨j + 1, by omega, by go_num, HV5⟩
              case measure => simp [intOf]; omega
            · obtain rfl : j = m := by omega
              obtain ⟨hky, howny⟩ := HY.out
              obtain ⟨ao6, cap6, b6, rfl, hs6⟩ := Sl.own howny
              clear hs6
              have HI : Hid (IntL wr _ (rowH l j (k : Int) day)) := Lib.hid (IntL.own (by rw [rowH_len]; exact howny))
              have HK := Lib.hid (HX.out.1.trans hky)
              have HO := Lib.hid (own_keepsH HX.out.2.1 hky)
              have HSP := Lib.hid (sep_new HX.out.2.1 howny)
              have HRV := Lib.hid (HX.out.2.2.keeps hky)
              have HS := Lib.hid (rowsH_snoc l j k day)
              clear hky howny
              go_wp2_with (at_builtin; refine wpList_app_row elemRows rfl _ _ rfl w1 _ _ _ rfl w1.heap.size HO.out HK.out HK.out.size _ (by exact HRV.out) _ _ HI.out (by exact HSP.out.1) HSP.out.2 _ 1 rfl rfl (by omega) (by omega) ?_; intro v5 w5 hown5 hrg5 hb5 hsz5; have HV5 : Hid (Keeps w1 w5 ∧ w5.ownsRow w1.heap.size 35 1 v5 (k + 1) _ ∧ RowsG w5 v5.ownBlock _ (rowsH l j (k + 1) day)) := Lib.hid ⟨hb5, hown5, by rw [HS.out]; exact hrg5⟩; clear hown5 hrg5 hb5 hsz5)
              go_roundw
              case rel => exact ⟨k + 1, _, by omega, by go_num, HV5⟩
              case measure => simp [intOf]; omega
        · obtain rfl : k = m := by omega
          obtain ⟨hky, howny, hrv⟩ := HX.out
          obtain ⟨ao7, cap7, b7, rfl, hrs⟩ := Rows.own (by rw [rowsH_len]; exact howny) hrv.1
          have HRS := Lib.hid hrs
          have HK := Lib.hid (K1.out.trans hky)
          clear hky howny hrv hrs HX
          go_wp2_with fail
          go_ret2
          rw [HQ.out, Int.toNat_natCast]
          exact ⟨ao7, cap7, b7, 0, rfl, HRS.out, HK.out⟩
end Go.Proofs.Ytkpdimbblcmnaaa
