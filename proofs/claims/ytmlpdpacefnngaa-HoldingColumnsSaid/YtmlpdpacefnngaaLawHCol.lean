/- HoldingColumns: the walk of the law. -/
import Derived.Test.YtmlpdpacefnngaaHolAwake
import Derived.Test.YtmlpdpacefnngaaHolOrdP
import Derived.Test.YtmlpdpacefnngaaHolMatW
import Derived.Test.YtmlpdpacefnngaaRG
namespace Go.Proofs.Ytmlpdpacefnngaa
open Go.RowKit
set_option linter.unusedSimpArgs false
set_option linter.unusedVariables false

/-- A row of the matrix, and its elements. -/
theorem mat_at {w : World} {ao : Option Addr} {l : List Hol} {m : Nat} {day : Int} {cap b o : Nat} (H : Rows w ao (matH l m day) cap b o) (i : Nat) (hi : i < m) :
    ∃ ao2 cap2 b2 o2, w.cell? ⟨b, o + i, none⟩ = some (.slice ao2 m cap2) ∧ m ≤ cap2 ∧ cap2 ≤ 9223372036854775807 ∧
      (∀ k, k < m → w.cell? ⟨b2, o2 + k, none⟩ = some (.int .i64 (atH l (i : Int) (k : Int) day))) ∧
      (∀ k, k < m → ∀ w', (Instr.indexAt 31 (.slice ao2 m cap2) (.int .i64 (k : Int))).run Try.prog w' = .ok (.pointer (some ⟨b2, o2 + k, none⟩)) w') := by
  obtain ⟨ao2, cap2, b2, o2, h1, h2⟩ := H.at i (by rw [matH_len]; exact hi)
  rw [matH_get] at h1 h2
  have hl := rowH_len l m (i : Int) day
  have hle := h2.le
  have hcap := h2.cap
  rw [hl] at h1 hle
  refine ⟨ao2, cap2, b2, o2, h1, hle, hcap, fun k hk => ?_, fun k hk => ?_⟩
  · have := h2.int k (by rw [hl]; exact hk)
    rw [rowH_get] at this
    exact this
  · have := h2.at1 Try.underlying31 Try.sizeOf3 k (by rw [hl]; exact hk)
    rw [hl] at this
    exact this
set_option maxRecDepth 100000 in
set_option maxHeartbeats 4000000 in
theorem lawHCol_any (n : Int) (l : List Hol) (day : Int) (ao : Option Addr) (cap b o : Nat) (w : World) (H : Hols w ao l cap b o) (hok : ∀ x ∈ l, x.Ok) :
    Calls Try.prog 10 #[.int .i64 n, .slice ao l.length cap, .int .i64 day] w fun e w' => e = .returned (.bool true) ∧ Keeps w w' := by
  have HH := Lib.hid H
  have HO := Lib.hid hok
  have hcap := Sl.cap H
  have hle := Sl.le H
  clear H hok
  by_cases hl : l.length ≤ 30
  · have e1 : decide ((30 : Int) < (l.length : Int)) = false := decide_eq_false (by omega)
    obtain ⟨⟨rl, re⟩, hr⟩ : ∃ r, matR n l day = r := ⟨_, rfl⟩
    have HM1 : Hid (∀ W, Keeps w W → Calls Try.prog 28 #[.int .i64 n, .slice ao l.length cap, .int .i64 day] W fun e w' => ∃ ao cap b o, e = .returned (.tuple #[.slice ao rl.length cap, .int .i64 re]) ∧ Rows w' ao rl cap b o ∧ Keeps W w') := Lib.hid (fun W hk => by
      have := matrix_any n ao l cap b o day W (HH.out.keeps hk) (by omega) HO.out
      rw [hr] at this
      exact this)
    by_cases hv : hvalidB n l = true ∧ dateB day = true
    · obtain ⟨hv, hd⟩ := hv
      rw [matR_3 hv hd] at hr
      obtain ⟨rfl, rfl⟩ : matH l n.toNat day = rl ∧ (0 : Int) = re := by simpa using hr
      obtain ⟨hn1, hn2⟩ := hvalidB_n hv
      obtain ⟨m, rfl⟩ : ∃ m : Nat, n = (m : Int) := ⟨n.toNat, by omega⟩
      have hm12 : m ≤ 12 := by omega
      rw [Int.toNat_natCast, matH_len] at HM1
      have hp := (hvalidB_iff.1 hv).2.1
      have HT1 : Hid (∀ (e : Int) W, Hols W ao l cap b o → Calls Try.prog 20 #[.slice ao l.length cap, .int .i64 e, .int .i64 day] W fun en w' => en = .returned (.int .i64 (totH l e day)) ∧ Keeps W w') := Lib.hid (fun e W hh => total_any ao l cap b o e day W hh (by omega) (ShB.of hp) (fun x hx => (HO.out x hx).1))
      have HV := Lib.hid hv
      clear hr hn1 hn2 hp hv hd
      go_enter Try.func10, Try.ntmps10
      go_wp2_with (first | (go_at_call 28; (with_reducible refine (HM1.out _ K1.out).mono ?_); rintro e w6 ⟨ao6, cap6, b6, o6, rfl, hs6, hk6⟩; have HS6 := Lib.hid hs6; have K6 := Lib.hid (K1.out.trans hk6); clear hs6 hk6) | (go_at_call 15; refine (hawake_any _).mono ?_; rintro e w1 ⟨rfl, hk1⟩; have K1 := Lib.hid hk1; clear hk1))
      have hc6 := HS6.out.cap
      have hl6 := HS6.out.le
      rw [matH_len] at hl6
      go_loopw [9] (fun vi wy => ∃ k : Nat, k ≤ m ∧ vi = .int .i64 k ∧ Hid (Keeps w6 wy)) (fun vi _ => m - (intOf vi).toNat)
      case atStart => exact ⟨0, Nat.zero_le _, rfl, Lib.hid (Keeps.refl _)⟩
      case round =>
        obtain ⟨k, hk, rfl, HKY⟩ := hrel
        obtain ⟨wo, rfl⟩ : ∃ wo : World, wo = wr := ⟨_, rfl⟩
        by_cases hlt : k < m
        · go_wp2_with fail
          go_loopw [10, 11] (fun vs vi wy => ∃ (i : Nat) (S : Int), i ≤ m ∧ vs = .int .i64 S ∧ vi = .int .i64 i ∧ 0 ≤ S ∧ S ≤ 120000 ∧ Hid (S = colH l i (k : Int) day) ∧ Hid (Keeps w6 wy)) (fun _ vi _ => m - (intOf vi).toNat)
          case atStart => exact ⟨0, 0, Nat.zero_le _, rfl, rfl, by omega, by omega, Lib.hid rfl, HKY⟩
          case round =>
            obtain ⟨i, S, hi, rfl, rfl, hS0, hS1, HS, HY⟩ := hrel
            by_cases hli : i < m
            · obtain ⟨ao2, cap2, b2, o2, h1, h2, h3, h4, h5⟩ := mat_at (HS6.out.keeps HY.out) i hli
              have hix := HS6.out.at1 Try.underlying42 Try.sizeOf31 i (by rw [matH_len]; exact hli)
              rw [matH_len] at hix
              have hiy := h5 k hlt
              have c1 := h4 k hlt
              obtain ⟨x, hx⟩ : ∃ x, atH l (i : Int) (k : Int) day = x := ⟨_, rfl⟩
              have hxr := atH_range HV.out (i : Int) (k : Int) day
              rw [hx] at c1 hxr
              obtain ⟨hx0, hx1⟩ := hxr
              have HN : Hid (S + x = colH l (i + 1) (k : Int) day) := Lib.hid (by rw [colH_snoc, HS.out, hx])
              have hSn : S + x ≤ 120000 := by
                have := (colH_bd HV.out (i + 1) (k : Int) day).2
                rw [← HN.out] at this
                omega
              have hxn : decide (x < 0) = false := decide_eq_false (by omega)
              have HA : Hid (∀ W, Keeps wr.drew W → Calls Try.prog 18 #[.slice ao l.length cap, .int .i64 (i : Int), .int .i64 (k : Int), .int .i64 day] W fun en w' => en = .returned (.int .i64 x) ∧ Keeps W w') := Lib.hid (fun W h => by have := hat_any ao l cap b o (i : Int) (k : Int) day W (HH.out.keeps ((K6.out.trans HY.out).drew.trans h)); rw [hx] at this; exact this)
              have HC : Hid (∀ w', Keeps wr.drew w' → w'.cell? ⟨b6, o6 + i, none⟩ = some (.slice ao2 m cap2) ∧ w'.cell? ⟨b2, o2 + k, none⟩ = some (.int .i64 x)) := Lib.hid (fun w' h => ⟨((Keeps.refl wr).drew.trans h).cell h1, ((Keeps.refl wr).drew.trans h).cell c1⟩)
              clear h1 h4 h5 c1 hx
              go_wp2_with fail
              refine wp_region_steps (A := ?_) Keeps [some 43, some 44, some 45, some 46, some 47, some 48, some 49, some 50, some 51, some 52, some 53, some 54, some 55, some 56, some 57, some 58, some 59, some 60, some 61, some 62, some 63, some 64, some 65, some 66, some 67, some 68, some 69, some 70, some 71, some 72, some 73, some 74] [[], [], [0, 1], [2], [3], [], [4, 5], [6], [7], [7], [7, 8, 9], [7, 10], [7], [7, 11, 12], [7, 13], [7, 14], [7, 15], [16], [17], [17], [17, 18, 19], [17, 20], [17], [17, 21, 22], [17, 23], [17], [17], [17], [17], [17, 25, 26, 27, 28], [17, 24, 29], [17, 30]] 32 (by kernel_rfl) (by kernel_rfl) (by kernel_rfl) (by kernel_rfl) (by kernel_rfl) (by kernel_rfl) Keeps.refl (fun _ _ _ => Keeps.trans) ?_ ?_
              rotate_left
              · intro f; simp only [putL, Act.put, List.setIfInBounds_toArray, List.set_cons_zero, List.set_cons_succ, Nat.zero_add, Nat.reduceAdd]; exact rfl
              refine Steps.pure (v := ?_) Keeps.refl rfl (fun f w' hR hV => ⟨?_, ?_⟩) ?_
              rotate_left
              · (rfl)
              · (clear hV; obtain ⟨x0, x1⟩ := HC.out _ hR; go_simp; all_goals (try with_reducible rfl))
              refine Steps.pure (v := ?_) Keeps.refl rfl (fun f w' hR hV => ⟨?_, ?_⟩) ?_
              rotate_left
              · (rfl)
              · (clear hV; obtain ⟨x0, x1⟩ := HC.out _ hR; go_simp; all_goals (try with_reducible rfl))
              refine Steps.pure (v := ?_) Keeps.refl rfl (fun f w' hR hV => ⟨?_, ?_⟩) ?_
              rotate_left
              · (rfl)
              · (obtain ⟨h0, h1, _⟩ := hV; replace h0 : f 0 = _ := h0; replace h1 : f 1 = _ := h1; obtain ⟨x0, x1⟩ := HC.out _ hR; go_simp; all_goals (try with_reducible rfl))
              refine Steps.pure (v := ?_) Keeps.refl rfl (fun f w' hR hV => ⟨?_, ?_⟩) ?_
              rotate_left
              · (rfl)
              · (obtain ⟨h2, _⟩ := hV; replace h2 : f 2 = _ := h2; obtain ⟨x0, x1⟩ := HC.out _ hR; go_simp; all_goals (try with_reducible rfl))
              refine Steps.pure (v := ?_) Keeps.refl rfl (fun f w' hR hV => ⟨?_, ?_⟩) ?_
              rotate_left
              · (rfl)
              · (obtain ⟨h3, _⟩ := hV; replace h3 : f 3 = _ := h3; obtain ⟨x0, x1⟩ := HC.out _ hR; go_simp; all_goals (try with_reducible rfl))
              refine Steps.pure (v := ?_) Keeps.refl rfl (fun f w' hR hV => ⟨?_, ?_⟩) ?_
              rotate_left
              · (rfl)
              · (clear hV; obtain ⟨x0, x1⟩ := HC.out _ hR; go_simp; all_goals (try with_reducible rfl))
              refine Steps.pure (v := .bool false) Keeps.refl rfl (fun f w' hR hV => ⟨?_, ?_⟩) ?_
              · (rfl)
              · (obtain ⟨h4, h5, _⟩ := hV; replace h4 : f 4 = _ := h4; replace h5 : f 5 = _ := h5; obtain ⟨x0, x1⟩ := HC.out _ hR; go_simp; all_goals (try simp))
              refine Steps.pure (v := ?_) Keeps.refl rfl (fun f w' hR hV => ⟨?_, ?_⟩) ?_
              rotate_left
              · (rfl)
              · (obtain ⟨h6, _⟩ := hV; replace h6 : f 6 = _ := h6; obtain ⟨x0, x1⟩ := HC.out _ hR; go_simp; all_goals (try with_reducible rfl))
              all_goals first
                | (refine Steps.pure (v := ?_) Keeps.refl rfl (fun f w' hR hV => ⟨?_, ?_⟩) ?_
                   rotate_left
                   · (obtain ⟨h7, _⟩ := hV; replace h7 : f 7 = _ := h7; exact want_yes (t := 50) rfl (by kernel_rfl) rfl h7)
                   · (obtain ⟨h7, _⟩ := hV; replace h7 : f 7 = _ := h7; obtain ⟨x0, x1⟩ := HC.out _ hR; go_simp; all_goals (try with_reducible rfl)))
                | (refine Steps.skip rfl (fun f w' hR hV => ?_) ?_
                   · (obtain ⟨h7, _⟩ := hV; replace h7 : f 7 = _ := h7; first | exact want_no (t := 50) rfl (by kernel_rfl) rfl h7 rfl | exact want_undef (t := 50) rfl (by kernel_rfl) rfl h7))
              all_goals first
                | (refine Steps.pure (v := ?_) Keeps.refl rfl (fun f w' hR hV => ⟨?_, ?_⟩) ?_
                   rotate_left
                   · (obtain ⟨h7, _⟩ := hV; replace h7 : f 7 = _ := h7; exact want_yes (t := 50) rfl (by kernel_rfl) rfl h7)
                   · (obtain ⟨h7, _⟩ := hV; replace h7 : f 7 = _ := h7; obtain ⟨x0, x1⟩ := HC.out _ hR; go_simp; all_goals (try with_reducible rfl)))
                | (refine Steps.skip rfl (fun f w' hR hV => ?_) ?_
                   · (obtain ⟨h7, _⟩ := hV; replace h7 : f 7 = _ := h7; first | exact want_no (t := 50) rfl (by kernel_rfl) rfl h7 rfl | exact want_undef (t := 50) rfl (by kernel_rfl) rfl h7))
              all_goals first
                | (refine Steps.pure (v := ?_) Keeps.refl rfl (fun f w' hR hV => ⟨?_, ?_⟩) ?_
                   rotate_left
                   · (obtain ⟨h7, _, _, _⟩ := hV; replace h7 : f 7 = _ := h7; exact want_yes (t := 50) rfl (by kernel_rfl) rfl h7)
                   · (obtain ⟨h7, h8, h9, _⟩ := hV; replace h7 : f 7 = _ := h7; replace h8 : f 8 = _ := h8; replace h9 : f 9 = _ := h9; obtain ⟨x0, x1⟩ := HC.out _ hR; go_simp; all_goals (try with_reducible rfl)))
                | (refine Steps.skip rfl (fun f w' hR hV => ?_) ?_
                   · (obtain ⟨h7, _, _, _⟩ := hV; replace h7 : f 7 = _ := h7; first | exact want_no (t := 50) rfl (by kernel_rfl) rfl h7 rfl | exact want_undef (t := 50) rfl (by kernel_rfl) rfl h7))
              all_goals first
                | (refine Steps.pure (v := ?_) Keeps.refl rfl (fun f w' hR hV => ⟨?_, ?_⟩) ?_
                   rotate_left
                   · (obtain ⟨h7, _, _⟩ := hV; replace h7 : f 7 = _ := h7; exact want_yes (t := 50) rfl (by kernel_rfl) rfl h7)
                   · (obtain ⟨h7, h10, _⟩ := hV; replace h7 : f 7 = _ := h7; replace h10 : f 10 = _ := h10; obtain ⟨x0, x1⟩ := HC.out _ hR; go_simp; all_goals (try with_reducible rfl)))
                | (refine Steps.skip rfl (fun f w' hR hV => ?_) ?_
                   · (obtain ⟨h7, _, _⟩ := hV; replace h7 : f 7 = _ := h7; first | exact want_no (t := 50) rfl (by kernel_rfl) rfl h7 rfl | exact want_undef (t := 50) rfl (by kernel_rfl) rfl h7))
              all_goals first
                | (refine Steps.pure (v := ?_) Keeps.refl rfl (fun f w' hR hV => ⟨?_, ?_⟩) ?_
                   rotate_left
                   · (obtain ⟨h7, _⟩ := hV; replace h7 : f 7 = _ := h7; exact want_yes (t := 50) rfl (by kernel_rfl) rfl h7)
                   · (obtain ⟨h7, _⟩ := hV; replace h7 : f 7 = _ := h7; obtain ⟨x0, x1⟩ := HC.out _ hR; go_simp; all_goals (try with_reducible rfl)))
                | (refine Steps.skip rfl (fun f w' hR hV => ?_) ?_
                   · (obtain ⟨h7, _⟩ := hV; replace h7 : f 7 = _ := h7; first | exact want_no (t := 50) rfl (by kernel_rfl) rfl h7 rfl | exact want_undef (t := 50) rfl (by kernel_rfl) rfl h7))
              all_goals first
                | (refine Steps.pure (v := ?_) Keeps.refl rfl (fun f w' hR hV => ⟨?_, ?_⟩) ?_
                   rotate_left
                   · (obtain ⟨h7, _, _, _⟩ := hV; replace h7 : f 7 = _ := h7; exact want_yes (t := 50) rfl (by kernel_rfl) rfl h7)
                   · (obtain ⟨h7, h11, h12, _⟩ := hV; replace h7 : f 7 = _ := h7; replace h11 : f 11 = _ := h11; replace h12 : f 12 = _ := h12; obtain ⟨x0, x1⟩ := HC.out _ hR; go_simp; all_goals (try with_reducible rfl)))
                | (refine Steps.skip rfl (fun f w' hR hV => ?_) ?_
                   · (obtain ⟨h7, _, _, _⟩ := hV; replace h7 : f 7 = _ := h7; first | exact want_no (t := 50) rfl (by kernel_rfl) rfl h7 rfl | exact want_undef (t := 50) rfl (by kernel_rfl) rfl h7))
              all_goals first
                | (refine Steps.pure (v := ?_) Keeps.refl rfl (fun f w' hR hV => ⟨?_, ?_⟩) ?_
                   rotate_left
                   · (obtain ⟨h7, _, _⟩ := hV; replace h7 : f 7 = _ := h7; exact want_yes (t := 50) rfl (by kernel_rfl) rfl h7)
                   · (obtain ⟨h7, h13, _⟩ := hV; replace h7 : f 7 = _ := h7; replace h13 : f 13 = _ := h13; obtain ⟨x0, x1⟩ := HC.out _ hR; go_simp; all_goals (try with_reducible rfl)))
                | (refine Steps.skip rfl (fun f w' hR hV => ?_) ?_
                   · (obtain ⟨h7, _, _⟩ := hV; replace h7 : f 7 = _ := h7; first | exact want_no (t := 50) rfl (by kernel_rfl) rfl h7 rfl | exact want_undef (t := 50) rfl (by kernel_rfl) rfl h7))
              all_goals first
                | (refine Steps.pure (v := .bool false) Keeps.refl rfl (fun f w' hR hV => ⟨?_, ?_⟩) ?_
                   · (obtain ⟨h7, _, _⟩ := hV; replace h7 : f 7 = _ := h7; exact want_yes (t := 50) rfl (by kernel_rfl) rfl h7)
                   · (obtain ⟨h7, h14, _⟩ := hV; replace h7 : f 7 = _ := h7; replace h14 : f 14 = _ := h14; obtain ⟨x0, x1⟩ := HC.out _ hR; go_simp; all_goals (try simp)))
                | (refine Steps.skip rfl (fun f w' hR hV => ?_) ?_
                   · (obtain ⟨h7, _, _⟩ := hV; replace h7 : f 7 = _ := h7; first | exact want_no (t := 50) rfl (by kernel_rfl) rfl h7 rfl | exact want_undef (t := 50) rfl (by kernel_rfl) rfl h7))
              all_goals (
                refine Steps.pure (v := .bool false) Keeps.refl rfl (fun f w' hR hV => ⟨?_, ?_⟩) ?_
                · (rfl)
                · (obtain ⟨h7, h15, _⟩ := hV; replace h7 : f 7 = _ := h7; replace h15 : f 15 = _ := h15; obtain ⟨x0, x1⟩ := HC.out _ hR; go_simp; all_goals (try simp)))
              all_goals (
                refine Steps.pure (v := ?_) Keeps.refl rfl (fun f w' hR hV => ⟨?_, ?_⟩) ?_
                rotate_left
                · (rfl)
                · (obtain ⟨h16, _⟩ := hV; replace h16 : f 16 = _ := h16; obtain ⟨x0, x1⟩ := HC.out _ hR; go_simp; all_goals (try with_reducible rfl)))
              all_goals first
                | (refine Steps.pure (v := ?_) Keeps.refl rfl (fun f w' hR hV => ⟨?_, ?_⟩) ?_
                   rotate_left
                   · (obtain ⟨h17, _⟩ := hV; replace h17 : f 17 = _ := h17; exact want_yes (t := 60) rfl (by kernel_rfl) rfl h17)
                   · (obtain ⟨h17, _⟩ := hV; replace h17 : f 17 = _ := h17; obtain ⟨x0, x1⟩ := HC.out _ hR; go_simp; all_goals (try with_reducible rfl)))
                | (refine Steps.skip rfl (fun f w' hR hV => ?_) ?_
                   · (obtain ⟨h17, _⟩ := hV; replace h17 : f 17 = _ := h17; first | exact want_no (t := 60) rfl (by kernel_rfl) rfl h17 rfl | exact want_undef (t := 60) rfl (by kernel_rfl) rfl h17))
              all_goals first
                | (refine Steps.pure (v := ?_) Keeps.refl rfl (fun f w' hR hV => ⟨?_, ?_⟩) ?_
                   rotate_left
                   · (obtain ⟨h17, _⟩ := hV; replace h17 : f 17 = _ := h17; exact want_yes (t := 60) rfl (by kernel_rfl) rfl h17)
                   · (obtain ⟨h17, _⟩ := hV; replace h17 : f 17 = _ := h17; obtain ⟨x0, x1⟩ := HC.out _ hR; go_simp; all_goals (try with_reducible rfl)))
                | (refine Steps.skip rfl (fun f w' hR hV => ?_) ?_
                   · (obtain ⟨h17, _⟩ := hV; replace h17 : f 17 = _ := h17; first | exact want_no (t := 60) rfl (by kernel_rfl) rfl h17 rfl | exact want_undef (t := 60) rfl (by kernel_rfl) rfl h17))
              all_goals first
                | (refine Steps.pure (v := ?_) Keeps.refl rfl (fun f w' hR hV => ⟨?_, ?_⟩) ?_
                   rotate_left
                   · (obtain ⟨h17, _, _, _⟩ := hV; replace h17 : f 17 = _ := h17; exact want_yes (t := 60) rfl (by kernel_rfl) rfl h17)
                   · (obtain ⟨h17, h18, h19, _⟩ := hV; replace h17 : f 17 = _ := h17; replace h18 : f 18 = _ := h18; replace h19 : f 19 = _ := h19; obtain ⟨x0, x1⟩ := HC.out _ hR; go_simp; all_goals (try with_reducible rfl)))
                | (refine Steps.skip rfl (fun f w' hR hV => ?_) ?_
                   · (obtain ⟨h17, _, _, _⟩ := hV; replace h17 : f 17 = _ := h17; first | exact want_no (t := 60) rfl (by kernel_rfl) rfl h17 rfl | exact want_undef (t := 60) rfl (by kernel_rfl) rfl h17))
              all_goals first
                | (refine Steps.pure (v := ?_) Keeps.refl rfl (fun f w' hR hV => ⟨?_, ?_⟩) ?_
                   rotate_left
                   · (obtain ⟨h17, _, _⟩ := hV; replace h17 : f 17 = _ := h17; exact want_yes (t := 60) rfl (by kernel_rfl) rfl h17)
                   · (obtain ⟨h17, h20, _⟩ := hV; replace h17 : f 17 = _ := h17; replace h20 : f 20 = _ := h20; obtain ⟨x0, x1⟩ := HC.out _ hR; go_simp; all_goals (try with_reducible rfl)))
                | (refine Steps.skip rfl (fun f w' hR hV => ?_) ?_
                   · (obtain ⟨h17, _, _⟩ := hV; replace h17 : f 17 = _ := h17; first | exact want_no (t := 60) rfl (by kernel_rfl) rfl h17 rfl | exact want_undef (t := 60) rfl (by kernel_rfl) rfl h17))
              all_goals first
                | (refine Steps.pure (v := ?_) Keeps.refl rfl (fun f w' hR hV => ⟨?_, ?_⟩) ?_
                   rotate_left
                   · (obtain ⟨h17, _⟩ := hV; replace h17 : f 17 = _ := h17; exact want_yes (t := 60) rfl (by kernel_rfl) rfl h17)
                   · (obtain ⟨h17, _⟩ := hV; replace h17 : f 17 = _ := h17; obtain ⟨x0, x1⟩ := HC.out _ hR; go_simp; all_goals (try with_reducible rfl)))
                | (refine Steps.skip rfl (fun f w' hR hV => ?_) ?_
                   · (obtain ⟨h17, _⟩ := hV; replace h17 : f 17 = _ := h17; first | exact want_no (t := 60) rfl (by kernel_rfl) rfl h17 rfl | exact want_undef (t := 60) rfl (by kernel_rfl) rfl h17))
              all_goals first
                | (refine Steps.pure (v := ?_) Keeps.refl rfl (fun f w' hR hV => ⟨?_, ?_⟩) ?_
                   rotate_left
                   · (obtain ⟨h17, _, _, _⟩ := hV; replace h17 : f 17 = _ := h17; exact want_yes (t := 60) rfl (by kernel_rfl) rfl h17)
                   · (obtain ⟨h17, h21, h22, _⟩ := hV; replace h17 : f 17 = _ := h17; replace h21 : f 21 = _ := h21; replace h22 : f 22 = _ := h22; obtain ⟨x0, x1⟩ := HC.out _ hR; go_simp; all_goals (try with_reducible rfl)))
                | (refine Steps.skip rfl (fun f w' hR hV => ?_) ?_
                   · (obtain ⟨h17, _, _, _⟩ := hV; replace h17 : f 17 = _ := h17; first | exact want_no (t := 60) rfl (by kernel_rfl) rfl h17 rfl | exact want_undef (t := 60) rfl (by kernel_rfl) rfl h17))
              all_goals first
                | (refine Steps.pure (v := ?_) Keeps.refl rfl (fun f w' hR hV => ⟨?_, ?_⟩) ?_
                   rotate_left
                   · (obtain ⟨h17, _, _⟩ := hV; replace h17 : f 17 = _ := h17; exact want_yes (t := 60) rfl (by kernel_rfl) rfl h17)
                   · (obtain ⟨h17, h23, _⟩ := hV; replace h17 : f 17 = _ := h17; replace h23 : f 23 = _ := h23; obtain ⟨x0, x1⟩ := HC.out _ hR; go_simp; all_goals (try with_reducible rfl)))
                | (refine Steps.skip rfl (fun f w' hR hV => ?_) ?_
                   · (obtain ⟨h17, _, _⟩ := hV; replace h17 : f 17 = _ := h17; first | exact want_no (t := 60) rfl (by kernel_rfl) rfl h17 rfl | exact want_undef (t := 60) rfl (by kernel_rfl) rfl h17))
              all_goals first
                | (refine Steps.pure (v := ?_) Keeps.refl rfl (fun f w' hR hV => ⟨?_, ?_⟩) ?_
                   rotate_left
                   · (obtain ⟨h17, _⟩ := hV; replace h17 : f 17 = _ := h17; exact want_yes (t := 60) rfl (by kernel_rfl) rfl h17)
                   · (obtain ⟨h17, _⟩ := hV; replace h17 : f 17 = _ := h17; obtain ⟨x0, x1⟩ := HC.out _ hR; go_simp; all_goals (try with_reducible rfl)))
                | (refine Steps.skip rfl (fun f w' hR hV => ?_) ?_
                   · (obtain ⟨h17, _⟩ := hV; replace h17 : f 17 = _ := h17; first | exact want_no (t := 60) rfl (by kernel_rfl) rfl h17 rfl | exact want_undef (t := 60) rfl (by kernel_rfl) rfl h17))
              all_goals first
                | (refine Steps.pure (v := ?_) Keeps.refl rfl (fun f w' hR hV => ⟨?_, ?_⟩) ?_
                   rotate_left
                   · (obtain ⟨h17, _⟩ := hV; replace h17 : f 17 = _ := h17; exact want_yes (t := 60) rfl (by kernel_rfl) rfl h17)
                   · (obtain ⟨h17, _⟩ := hV; replace h17 : f 17 = _ := h17; obtain ⟨x0, x1⟩ := HC.out _ hR; go_simp; all_goals (try with_reducible rfl)))
                | (refine Steps.skip rfl (fun f w' hR hV => ?_) ?_
                   · (obtain ⟨h17, _⟩ := hV; replace h17 : f 17 = _ := h17; first | exact want_no (t := 60) rfl (by kernel_rfl) rfl h17 rfl | exact want_undef (t := 60) rfl (by kernel_rfl) rfl h17))
              all_goals first
                | (refine Steps.pure (v := ?_) Keeps.refl rfl (fun f w' hR hV => ⟨?_, ?_⟩) ?_
                   rotate_left
                   · (obtain ⟨h17, _⟩ := hV; replace h17 : f 17 = _ := h17; exact want_yes (t := 60) rfl (by kernel_rfl) rfl h17)
                   · (obtain ⟨h17, _⟩ := hV; replace h17 : f 17 = _ := h17; obtain ⟨x0, x1⟩ := HC.out _ hR; go_simp; all_goals (try with_reducible rfl)))
                | (refine Steps.skip rfl (fun f w' hR hV => ?_) ?_
                   · (obtain ⟨h17, _⟩ := hV; replace h17 : f 17 = _ := h17; first | exact want_no (t := 60) rfl (by kernel_rfl) rfl h17 rfl | exact want_undef (t := 60) rfl (by kernel_rfl) rfl h17))
              all_goals first
                | (refine Steps.pure (v := ?_) Keeps.refl rfl (fun f w' hR hV => ⟨?_, ?_⟩) ?_
                   rotate_left
                   · (obtain ⟨h17, _⟩ := hV; replace h17 : f 17 = _ := h17; exact want_yes (t := 60) rfl (by kernel_rfl) rfl h17)
                   · (obtain ⟨h17, _⟩ := hV; replace h17 : f 17 = _ := h17; obtain ⟨x0, x1⟩ := HC.out _ hR; go_simp; all_goals (try with_reducible rfl)))
                | (refine Steps.skip rfl (fun f w' hR hV => ?_) ?_
                   · (obtain ⟨h17, _⟩ := hV; replace h17 : f 17 = _ := h17; first | exact want_no (t := 60) rfl (by kernel_rfl) rfl h17 rfl | exact want_undef (t := 60) rfl (by kernel_rfl) rfl h17))
              all_goals first
                | (refine Steps.call (fun _ v => v = .int .i64 x) rfl (fun _ _ _ _ h => h) (fun f w' hR hV => ⟨?_, ?_⟩) ?_
                   · (obtain ⟨h17, _, _, _, _, _⟩ := hV; replace h17 : f 17 = _ := h17; exact want_yes (t := 60) rfl (by kernel_rfl) rfl h17)
                   · (obtain ⟨h17, h25, h26, h27, h28, _⟩ := hV; replace h17 : f 17 = _ := h17; replace h25 : f 25 = _ := h25; replace h26 : f 26 = _ := h26; replace h27 : f 27 = _ := h27; replace h28 : f 28 = _ := h28; obtain ⟨x0, x1⟩ := HC.out _ hR; go_simp; go_at_call 18; refine (HA.out _ hR).mono ?_; rintro e w2 ⟨rfl, hk2⟩; exact StepPost.of _ rfl rfl hk2))
                | (refine Steps.skip rfl (fun f w' hR hV => ?_) ?_
                   · (obtain ⟨h17, _, _, _, _, _⟩ := hV; replace h17 : f 17 = _ := h17; first | exact want_no (t := 60) rfl (by kernel_rfl) rfl h17 rfl | exact want_undef (t := 60) rfl (by kernel_rfl) rfl h17))
              all_goals first
                | (refine Steps.pure (v := .bool false) Keeps.refl rfl (fun f w' hR hV => ⟨?_, ?_⟩) ?_
                   · (obtain ⟨h17, _, _, _⟩ := hV; replace h17 : f 17 = _ := h17; exact want_yes (t := 60) rfl (by kernel_rfl) rfl h17)
                   · (obtain ⟨h17, h24, h29, _⟩ := hV; replace h17 : f 17 = _ := h17; replace h24 : f 24 = _ := h24; replace h29 : f 29 = _ := h29; obtain ⟨x0, x1⟩ := HC.out _ hR; go_simp; all_goals (try simp)))
                | (refine Steps.skip rfl (fun f w' hR hV => ?_) ?_
                   · (obtain ⟨h17, _, _, _⟩ := hV; replace h17 : f 17 = _ := h17; first | exact want_no (t := 60) rfl (by kernel_rfl) rfl h17 rfl | exact want_undef (t := 60) rfl (by kernel_rfl) rfl h17))
              all_goals (
                refine Steps.pure (v := .bool false) Keeps.refl rfl (fun f w' hR hV => ⟨?_, ?_⟩) ?_
                · (rfl)
                · (obtain ⟨h17, h30, _⟩ := hV; replace h17 : f 17 = _ := h17; replace h30 : f 30 = _ := h30; obtain ⟨x0, x1⟩ := HC.out _ hR; go_simp; all_goals (try simp)))
              all_goals (refine Steps.done [31] (by kernel_rfl) rfl (fun f wq hR hV => ?_); obtain ⟨h31, _⟩ := hV; replace h31 : f 31 = _ := h31; simp only [h31])
              obtain ⟨x0, x1⟩ := HC.out _ hR
              have HR := Lib.hid (HY.out.drew.trans hR)
              clear hR HC HA
              go_wp2_with fail
              go_roundw
              case rel => exact ⟨i + 1, S + x, by omega, rfl, by go_num, by omega, by omega, HN, HR⟩
              case measure => simp [intOf]; omega
            · obtain rfl : i = m := by omega
              have HT : Hid (totH l (k : Int) day = S) := Lib.hid (by rw [HS.out, colH_tot HV.out])
              have hS2 : S ≤ 10000 := by rw [← HT.out]; exact sums_all (hvalidB_iff.1 HV.out).2.2.2 _ _
              have hSn : decide (10000 < S) = false := decide_eq_false (by omega)
              have HT2 := HT1.out (k : Int)
              rw [HT.out] at HT2
              have HT2 := Lib.hid HT2
              go_wp2_with (go_at_call 20; (with_reducible refine (HT2.out _ (HH.out.keeps (K6.out.trans HY.out))).mono ?_); rintro e w8 ⟨rfl, hk8⟩; have HK8 := Lib.hid (HY.out.trans hk8); clear hk8; obtain ⟨ao2, cap2, b2, o2, h1, h2, h3, h4, h5⟩ := mat_at (HS6.out.keeps HK8.out) k hlt; have hix := HS6.out.at1 Try.underlying42 Try.sizeOf31 k (by rw [matH_len]; exact hlt); rw [matH_len] at hix; have hiy := h5 k hlt; have c1 := h4 k hlt; rw [atH_diag HV.out] at c1; clear h4 h5)
              go_roundw
              case rel => exact ⟨k + 1, by omega, by go_num, HK8⟩
              case measure => simp [intOf]; omega
        · go_wp2_with fail
          go_ret
          exact ⟨rfl, K6.out.trans HKY.out⟩
    · obtain ⟨rfl, h0⟩ : [] = rl ∧ re ≠ 0 := by
        cases h1 : hvalidB n l with
        | false => rw [matR_1 h1] at hr; simp at hr; exact ⟨hr.1.symm, by omega⟩
        | true =>
          cases h2 : dateB day with
          | false => rw [matR_2 h1 h2] at hr; simp at hr; exact ⟨hr.1.symm, by omega⟩
          | true => exact absurd ⟨h1, h2⟩ hv
      have e2 : (!(re == 0)) = true := by simpa using h0
      clear hr hv
      go_enter Try.func10, Try.ntmps10
      go_wp2_with (first | (go_at_call 28; (with_reducible refine (HM1.out _ K1.out).mono ?_); rintro e w6 ⟨ao6, cap6, b6, o6, rfl, hs6, hk6⟩; have HS6 := Lib.hid hs6; have K6 := Lib.hid (K1.out.trans hk6); clear hs6 hk6) | (go_at_call 15; refine (hawake_any _).mono ?_; rintro e w1 ⟨rfl, hk1⟩; have K1 := Lib.hid hk1; clear hk1))
      go_ret
      exact ⟨rfl, K6.out⟩
  · have e1 : decide ((30 : Int) < (l.length : Int)) = true := decide_eq_true (by omega)
    go_enter Try.func10, Try.ntmps10
    go_wp2_with (go_at_call 15; refine (hawake_any _).mono ?_; rintro e w1 ⟨rfl, hk1⟩; have K1 := Lib.hid hk1; clear hk1)
    go_ret
    exact ⟨rfl, K1.out⟩
end Go.Proofs.Ytmlpdpacefnngaa
