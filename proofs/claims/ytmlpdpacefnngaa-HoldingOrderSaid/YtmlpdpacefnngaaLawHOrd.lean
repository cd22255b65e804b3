/- HoldingOrder: the walk of the law. -/
import Derived.Test.YtmlpdpacefnngaaHolAwake
import Derived.Test.YtmlpdpacefnngaaHolOrdP
import Derived.Test.YtmlpdpacefnngaaHolMatW
import Derived.Test.YtmlpdpacefnngaaHolSameM
namespace Go.Proofs.Ytmlpdpacefnngaa
open Go.RowKit
set_option linter.unusedSimpArgs false
set_option linter.unusedVariables false

set_option maxRecDepth 100000 in
set_option maxHeartbeats 4000000 in
theorem turned_any (l : List Hol) (ao : Option Addr) (cap b o : Nat) (w : World) (H : Hols w ao l cap b o) (hlen : l.length ≤ 900) :
    Calls Try.prog 31 #[.slice ao l.length cap] w fun e w' => ∃ ao cap b o, e = .returned (.slice ao l.length cap) ∧ Hols w' ao l.reverse cap b o ∧ Keeps w w' := by
  have hcap := Sl.cap H
  have hle := Sl.le H
  have HH := Lib.hid H
  clear H
  go_enter Try.func31, Try.ntmps31
  go_wp2_with fail
  go_loopw [3, 4] (fun vs vi wy => ∃ k : Nat, k ≤ l.length ∧ vi = .int .i64 ((k : Int) - 1) ∧ Hid (Keeps w wy ∧ wy.ownsRow w.heap.size 27 4 vs (l.length - k) ((l.drop k).reverse.flatMap Hol.cells))) (fun _ vi _ => (intOf vi + 1).toNat)
  case atStart => exact ⟨l.length, Nat.le_refl _, by first | rfl | go_num, Lib.hid ⟨Keeps.refl _, by rw [Nat.sub_self, List.drop_length]; exact World.ownsRow_nil _ _ _ _⟩⟩
  case round =>
    obtain ⟨k, hk, rfl, HX⟩ := hrel
    cases k with
    | zero =>
      have hx := HX.out
      rw [List.drop_zero, Nat.sub_zero, ← List.length_reverse] at hx
      obtain ⟨ao7, cap7, b7, rfl, hs7⟩ := Recs.own hx.2
      try rw [List.length_reverse]
      have HS7 := Lib.hid hs7
      have HK := Lib.hid hx.1
      clear hx hs7 HX
      go_wp2_with fail
      go_ret
      exact ⟨ao7, cap7, b7, 0, by simp, HS7.out, HK.out⟩
    | succ k =>
      have hlt : k < l.length := by omega
      have HLk := HH.out.keeps HX.out.1
      have hix := Sl.at HLk Try.underlying22 Try.sizeOf27 k hlt
      have z0 := HLk.cell Hol.len k hlt 0 _ rfl
      have z1 := HLk.cell Hol.len k hlt 1 _ rfl
      have z2 := HLk.cell Hol.len k hlt 2 _ rfl
      have z3 := HLk.cell Hol.len k hlt 3 _ rfl
      simp only [Nat.add_zero] at z0
      have e0 : ((k + 1 : Nat) : Int) - 1 = (k : Int) := by omega
      rw [e0]
      have HD : Hid ((l.drop k).reverse = (l.drop (k + 1)).reverse ++ [l[k]]) := Lib.hid (by rw [List.drop_eq_getElem_cons hlt, List.reverse_cons])
      clear HLk e0
      go_wp2_with (at_builtin; refine wpList_appx elemHol rfl _ _ rfl w _ _ _ rfl w.heap.size HX.out.2 HX.out.1 HX.out.1.size [.int .i64 l[k].holder, .int .i64 l[k].entity, .int .i64 l[k].date, .int .i64 l[k].share] _ 1 rfl rfl rfl (by intro u hu; simp at hu; rcases hu with rfl | rfl | rfl | rfl <;> rfl) (by omega) (by omega) ?_; intro v5 w5 hown5 hb5 hsz5; have HY : Hid (Keeps w w5 ∧ w5.ownsRow w.heap.size 27 4 v5 (l.length - k) ((l.drop k).reverse.flatMap Hol.cells)) := (Lib.hid ⟨hb5, by rw [HD.out, List.flatMap_append, show l.length - k = l.length - (k + 1) + 1 by omega]; exact hown5⟩); clear hown5 hb5 hsz5)
      go_roundw
      case rel => exact ⟨k, by omega, by go_num, HY⟩
      case measure => first | (simp [intOf]; done) | (simp [intOf]; omega)

set_option maxRecDepth 100000 in
set_option maxHeartbeats 4000000 in
theorem lawHOrd_any (n : Int) (l : List Hol) (day : Int) (ao : Option Addr) (cap b o : Nat) (w : World) (H : Hols w ao l cap b o) (hok : ∀ x ∈ l, x.Ok) :
    Calls Try.prog 9 #[.int .i64 n, .slice ao l.length cap, .int .i64 day] w fun e w' => e = .returned (.bool true) ∧ Keeps w w' := by
  have HH := Lib.hid H
  have HO := Lib.hid hok
  have hcap := Sl.cap H
  have hle := Sl.le H
  clear H hok
  by_cases hl : l.length ≤ 30
  · have e1 : decide ((30 : Int) < (l.length : Int)) = false := decide_eq_false (by omega)
    obtain ⟨vl, hvl⟩ : ∃ vl, hvalidB n l = vl := ⟨_, rfl⟩
    have HRV : Hid (∀ W, Keeps w W → Calls Try.prog 17 #[.int .i64 n, .slice ao l.length cap] W fun e w' => e = .returned (.bool vl) ∧ Keeps W w') := Lib.hid (fun W hk => by
      have := hrvalid_any n ao l cap b o W (HH.out.keeps hk) (by omega)
      rw [hvl] at this
      exact this)
    cases vl with
    | false =>
      clear hvl
      go_enter Try.func9, Try.ntmps9
      go_wp2_with (first | (go_at_call 17; (with_reducible refine (HRV.out _ K1.out).mono ?_); rintro e w2 ⟨rfl, hk2⟩; have K2 := Lib.hid (K1.out.trans hk2); clear hk2) | (go_at_call 15; refine (hawake_any _).mono ?_; rintro e w1 ⟨rfl, hk1⟩; have K1 := Lib.hid hk1; clear hk1))
      go_ret
      exact ⟨rfl, K2.out⟩
    | true =>
      obtain ⟨⟨rl, re⟩, hr⟩ : ∃ r, matR n l day = r := ⟨_, rfl⟩
      have HM1 : Hid (∀ W, Keeps w W → Calls Try.prog 28 #[.int .i64 n, .slice ao l.length cap, .int .i64 day] W fun e w' => ∃ ao cap b o, e = .returned (.tuple #[.slice ao rl.length cap, .int .i64 re]) ∧ Rows w' ao rl cap b o ∧ Keeps W w') := Lib.hid (fun W hk => by
        have := matrix_any n ao l cap b o day W (HH.out.keeps hk) (by omega) HO.out
        rw [hr] at this
        exact this)
      have hro : ∀ x ∈ l.reverse, x.Ok := fun x hx => HO.out x (by simpa using hx)
      have HM2 : Hid (∀ W ao c b o, Hols W ao l.reverse c b o → Calls Try.prog 28 #[.int .i64 n, .slice ao l.length c, .int .i64 day] W fun e w' => ∃ ao cap b o, e = .returned (.tuple #[.slice ao rl.length cap, .int .i64 re]) ∧ Rows w' ao rl cap b o ∧ Keeps W w') := Lib.hid (fun W ao c b o hh => by
        have := matrix_any n ao l.reverse c b o day W hh (by rw [List.length_reverse]; omega) hro
        rw [matR_rev hvl, hr, List.length_reverse] at this
        exact this)
      have HV : Hid (∀ W ao c b o, Hols W ao l.reverse c b o → Calls Try.prog 16 #[.int .i64 n, .slice ao l.length c] W fun e w' => e = .returned (.bool true) ∧ Keeps W w') := Lib.hid (fun W ao c b o hh => by
        have := hvalid_any n ao l.reverse c b o W hh (by rw [List.length_reverse]; omega) hro
        rw [hvalidB_rev hvl, List.length_reverse] at this
        exact this)
      have hp := (hvalidB_iff.1 hvl).2.1
      have HT1 : Hid (∀ (e : Int) W, Hols W ao l cap b o → Calls Try.prog 20 #[.slice ao l.length cap, .int .i64 e, .int .i64 day] W fun en w' => en = .returned (.int .i64 (totH l e day)) ∧ Keeps W w') := Lib.hid (fun e W hh => total_any ao l cap b o e day W hh (by omega) (ShB.of hp) (fun x hx => (HO.out x hx).1))
      have HT2 : Hid (∀ (e : Int) W ao c b o, Hols W ao l.reverse c b o → Calls Try.prog 20 #[.slice ao l.length c, .int .i64 e, .int .i64 day] W fun en w' => en = .returned (.int .i64 (totH l e day)) ∧ Keeps W w') := Lib.hid (fun e W ao c b o hh => by
        have := total_any ao l.reverse c b o e day W hh (by rw [List.length_reverse]; omega) (ShB.of (n := n) (fun x hx => hp x (by simpa using hx))) (fun x hx => (hro x hx).1)
        rw [totH_rev hvl, List.length_reverse] at this
        exact this)
      obtain ⟨hn1, hn2⟩ := hvalidB_n hvl
      obtain ⟨m, rfl⟩ : ∃ m : Nat, n = (m : Int) := ⟨n.toNat, by omega⟩
      have hm12 : m ≤ 12 := by omega
      clear hvl hr hro hp hn1 hn2
      go_enter Try.func9, Try.ntmps9
      go_wp2_with (first | (go_at_call 28; (with_reducible refine (HM2.out _ _ _ _ _ HS36.out).mono ?_); rintro e w7 ⟨ao7, cap7, b7, o7, rfl, hs7, hk7⟩; have HS7 := Lib.hid hs7; have K7 := Lib.hid (K6.out.trans hk7); have HS67 := Lib.hid (HS6.out.keeps hk7); have HS37 := Lib.hid (HS36.out.keeps hk7); clear hs7 hk7) | (go_at_call 28; (with_reducible refine (HM1.out _ K3.out).mono ?_); rintro e w6 ⟨ao6, cap6, b6, o6, rfl, hs6, hk6⟩; have HS6 := Lib.hid hs6; have K6 := Lib.hid (K3.out.trans hk6); have HS36 := Lib.hid (HS3.out.keeps hk6); clear hs6 hk6) | (go_at_call 31; (with_reducible refine (turned_any l ao cap b o _ (HH.out.keeps K2.out) (by omega)).mono ?_); rintro e w3 ⟨ao3, cap3, b3, o3, rfl, hs3, hk3⟩; have HS3 := Lib.hid hs3; have K3 := Lib.hid (K2.out.trans hk3); have hle3 := Sl.le hs3; have hcap3 := Sl.cap hs3; clear hs3 hk3) | (go_at_call 17; (with_reducible refine (HRV.out _ K1.out).mono ?_); rintro e w2 ⟨rfl, hk2⟩; have K2 := Lib.hid (K1.out.trans hk2); clear hk2) | (go_at_call 15; refine (hawake_any _).mono ?_; rintro e w1 ⟨rfl, hk1⟩; have K1 := Lib.hid hk1; clear hk1))
      go_loopw [12] (fun vi wy => ∃ k : Nat, k ≤ m ∧ vi = .int .i64 k ∧ Hid (Keeps w7 wy)) (fun vi _ => m - (intOf vi).toNat)
      case atStart => exact ⟨0, Nat.zero_le _, rfl, Lib.hid (Keeps.refl _)⟩
      case round =>
        obtain ⟨k, hk, rfl, HKY⟩ := hrel
        by_cases hlt : k < m
        · obtain ⟨t, ht⟩ : ∃ t, totH l (k : Int) day = t := ⟨_, rfl⟩
          have HTA := HT1.out (k : Int)
          have HTB := HT2.out (k : Int)
          rw [ht] at HTA HTB
          have HTA := Lib.hid HTA
          have HTB := Lib.hid HTB
          clear ht
          go_wp2_with (first | (go_at_call 20; (with_reducible refine (HTB.out _ _ _ _ _ (HS37.out.keeps HK8.out)).mono ?_); rintro e w9 ⟨rfl, hk9⟩; have HK9 := Lib.hid (HK8.out.trans hk9); clear hk9) | (go_at_call 20; (with_reducible refine (HTA.out _ (HH.out.keeps (K7.out.trans HKY.out))).mono ?_); rintro e w8 ⟨rfl, hk8⟩; have HK8 := Lib.hid (HKY.out.trans hk8); clear hk8))
          go_roundw
          case rel => exact ⟨k + 1, by omega, by go_num, HK9⟩
          case measure => simp [intOf]; omega
        · go_wp2_with (first | (go_at_call 30; (with_reducible refine (sameM_any rl ao6 ao7 cap6 b6 o6 cap7 b7 o7 _ (HS67.out.keeps (HKY.out.trans HK9.out)) (HS7.out.keeps (HKY.out.trans HK9.out))).mono ?_); rintro e w8 ⟨rfl, hk8⟩; have K8 := Lib.hid (K7.out.trans ((HKY.out.trans HK9.out).trans hk8)); clear hk8) | (go_at_call 16; (with_reducible refine (HV.out _ _ _ _ _ (HS37.out.keeps HKY.out)).mono ?_); rintro e w9 ⟨rfl, hk9⟩; have HK9 := Lib.hid hk9; clear hk9))
          go_ret
          exact ⟨rfl, K8.out⟩
  · have e1 : decide ((30 : Int) < (l.length : Int)) = true := decide_eq_true (by omega)
    go_enter Try.func9, Try.ntmps9
    go_wp2_with (go_at_call 15; refine (hawake_any _).mono ?_; rintro e w1 ⟨rfl, hk1⟩; have K1 := Lib.hid hk1; clear hk1)
    go_ret
    exact ⟨rfl, K1.out⟩
end Go.Proofs.Ytmlpdpacefnngaa
