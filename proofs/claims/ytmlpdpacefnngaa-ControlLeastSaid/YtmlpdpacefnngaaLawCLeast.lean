/- ControlLeast: the walk of the law. -/
import Derived.Test.YtmlpdpacefnngaaCtlAwake
namespace Go.Proofs.Ytmlpdpacefnngaa
open Go.RowKit
set_option linter.unusedSimpArgs false
set_option linter.unusedVariables false

theorem bit64_01 (z : Int) : bits .and .i64 z 1 = 0 ∨ bits .and .i64 z 1 = 1 := by
  have h : bits .and .i64 z 1 = IntKind.i64.wrap ((BitVec.ofInt 64 z &&& BitVec.ofInt 64 (1 : Int)).toNat : Int) := rfl
  rw [h, BitVec.toNat_and, show (BitVec.ofInt 64 (1 : Int)).toNat = 1 from rfl, Nat.and_one_is_mod]
  rcases Nat.mod_two_eq_zero_or_one (BitVec.ofInt 64 z).toNat with h | h <;> rw [h]
  · exact .inl rfl
  · exact .inr rfl
/-- Whether a number picks an entity. -/
def pickB (p : Int) (h : Nat) : Bool := h == 0 || bits .and .i64 (p / 2 ^ h) 1 == 1
set_option maxRecDepth 100000 in
set_option maxHeartbeats 4000000 in
theorem lawCLeast_any (n : Int) (l : List Hol) (p0 p1 : Int) (ao : Option Addr) (cap b o : Nat) (w : World) (H : Hols w ao l cap b o) (hok : ∀ x ∈ l, x.Ok) :
    Calls Try.prog 12 #[.int .i64 n, .slice ao l.length cap, .agg #[.int .i64 p0, .int .i64 p1]] w fun e w' => e = .returned (.bool true) ∧ Keeps w w' := by
  have HH := Lib.hid H
  have HO := Lib.hid hok
  have hcap := Sl.cap H
  have hle := Sl.le H
  clear H hok
  by_cases hl : l.length ≤ 30
  · have e1 : decide ((30 : Int) < (l.length : Int)) = false := decide_eq_false (by omega)
    have HM0 : Hid (∀ W, Keeps w W → Calls Try.prog 33 #[.int .i64 n, .slice ao l.length cap, .int .i64 p0] W (OutBl W (ctlR n l p0).1 (ctlR n l p0).2)) := Lib.hid (fun W hk => controlled_any n l p0 ao cap b o W (HH.out.keeps hk) (by omega) HO.out)
    rcases mat_cases n l p0 with ⟨m, rfl, hm1, hm, hv, hq1, hq2, hq3⟩ | ⟨re, h0, hq1, hq2, hq3⟩
    · rw [hq3] at HM0
      have HM1 : Hid (∀ W, Keeps w W → Calls Try.prog 33 #[.int .i64 (m : Int), .slice ao l.length cap, .int .i64 p0] W fun e w' => ∃ ao cap b o, e = .returned (.tuple #[.slice ao m cap, .int .i64 0]) ∧ Sl w' 1 ao m cap b o ((fnB (inA (f0 l p0) m m) m).map .bool) ∧ Keeps W w') := Lib.hid (fun W hk => by
        have := HM0.out W hk
        unfold OutBl at this
        simp only [fnB_len] at this
        exact this)
      have HFB := Lib.hid (f0_bd hv p0)
      have HAT : Hid (∀ (h e : Nat) W, Keeps w W → Calls Try.prog 18 #[.slice ao l.length cap, .int .i64 (h : Int), .int .i64 (e : Int), .int .i64 p0] W fun en w' => en = .returned (.int .i64 (f0 l p0 h e)) ∧ Keeps W w') := Lib.hid (fun h e W hk => hat_any ao l cap b o (h : Int) (e : Int) p0 W (HH.out.keeps hk))
      clear HM0 hv hq1 hq2 hq3
      go_enter Try.func12, Try.ntmps12
      go_wp2_with (go_at_call 32; refine (cawake_any _).mono ?_; rintro e w1 ⟨rfl, hk1⟩; have K1 := Lib.hid (((Keeps.refl w).alloc _).trans hk1); have x0 := hk1.cell (p := ⟨w.heap.size, 0, none⟩) (v := .int .i64 p0) (by go_simp); have x1 := hk1.cell (p := ⟨w.heap.size, 1, none⟩) (v := .int .i64 p1) (by go_simp); have hzx := World.block_lt_of_cell? _ _ x0; clear hk1)
      go_quiet (fail)
      go_wp2_with (go_at_call 33; (refine (HM1.out _ (K1.out.drewN _)).mono ?_); rintro e w2 ⟨ao2, cap2, b2, o2, rfl, hs2, hk2⟩; have HS2 := Lib.hid hs2; have K2 := Lib.hid ((K1.out.drewN _).trans hk2); have hc2 := hs2.cap; have hl2 := hs2.le; clear hs2 hk2)
      go_loopw [11] (fun vi wy => ∃ i : Nat, 1 ≤ i ∧ i ≤ m ∧ vi = .int .i64 i ∧ Hid (Keeps w2 wy) ∧ Hid (∀ e, 1 ≤ e → e < i → 5000 < voteK (f0 l p0) (pickB p1) e m → pickB p1 e = true)) (fun vi _ => m - (intOf vi).toNat)
      case atStart => exact ⟨1, Nat.le_refl _, hm1, rfl, Lib.hid (Keeps.refl _), Lib.hid fun e h1 h2 => by omega⟩
      case round =>
        obtain ⟨i, hi1, hi, rfl, HKY, HC⟩ := hrel
        by_cases hlt : i < m
        · go_wp2_with fail
          go_loopw [12, 13] (fun vs vi2 wy => ∃ (h : Nat) (s : Int), h ≤ m ∧ vi2 = .int .i64 h ∧ vs = .int .i64 s ∧ 0 ≤ s ∧ s ≤ 120000 ∧ Hid (s = voteK (f0 l p0) (pickB p1) i h) ∧ Hid (Keeps w2 wy)) (fun _ vi2 _ => m - (intOf vi2).toNat)
          case atStart => exact ⟨0, 0, Nat.zero_le _, rfl, rfl, by omega, by omega, Lib.hid rfl, HKY⟩
          case round =>
            obtain ⟨h, s, hh, rfl, rfl, hs0, hs1, HS, HKZ⟩ := hrel
            by_cases hlh : h < m
            · obtain ⟨x, hx⟩ : ∃ x, f0 l p0 h i = x := ⟨_, rfl⟩
              have hxb := HFB.out h i
              have HA := HAT.out h i
              rw [hx] at hxb HA
              have HA := Lib.hid HA
              obtain ⟨hx0, hx1⟩ := hxb
              by_cases hp : pickB p1 h = true
              · have HN : Hid (s + x = voteK (f0 l p0) (pickB p1) i (h + 1)) := Lib.hid (by rw [HS.out]; simp only [voteK]; rw [hp, hx]; rfl)
                have hsn : s + x ≤ 120000 := by
                  rw [HN.out]
                  have := (voteK_bd HFB.out (pickB p1) i (h + 1)).2
                  omega
                have hp2 := hp
                unfold pickB at hp2
                rw [Bool.or_eq_true] at hp2
                clear hp hx
                by_cases h0 : h = 0
                · subst h0
                  go_wp2_with (go_at_call 18; (refine (HA.out _ (K2.out.trans HKZ.out)).mono ?_); rintro e w3 ⟨rfl, hk3⟩; have K3 := Lib.hid (HKZ.out.trans hk3); clear hk3)
                  go_roundw
                  case rel => exact ⟨1, s + x, by omega, by go_num, rfl, by omega, by omega, HN, K3⟩
                  case measure => simp [intOf]; omega
                · have hz : ((h : Int) == 0) = false := by simp; omega
                  have hb : (bits .and .i64 (p1 / 2 ^ h) 1 == 1) = true := by
                    rcases hp2 with h1 | h1
                    · simp at h1; exact absurd h1 h0
                    · exact h1
                  clear hp2
                  go_wp2_with (go_at_call 18; (refine (HA.out _ (K2.out.trans HKZ.out)).mono ?_); rintro e w3 ⟨rfl, hk3⟩; have K3 := Lib.hid (HKZ.out.trans hk3); clear hk3)
                  go_roundw
                  case rel => exact ⟨h + 1, s + x, by omega, by go_num, rfl, by omega, by omega, HN, K3⟩
                  case measure => simp [intOf]; omega
              · have hp1 : pickB p1 h = false := by simpa using hp
                have HN : Hid (s = voteK (f0 l p0) (pickB p1) i (h + 1)) := Lib.hid (by rw [HS.out]; simp only [voteK]; rw [hp1]; simp)
                unfold pickB at hp1
                rw [Bool.or_eq_false_iff] at hp1
                obtain ⟨hp2, hb⟩ := hp1
                have hz : ((h : Int) == 0) = false := by simp at hp2; simp; omega
                clear hp hx hp2
                go_wp2_with fail
                go_roundw
                case rel => exact ⟨h + 1, s, by omega, by go_num, rfl, by omega, by omega, HN, HKZ⟩
                case measure => simp [intOf]; omega
            · obtain rfl : h = m := by omega
              by_cases h5 : 5000 < s
              · have r1 : decide (5000 < s) = true := decide_eq_true h5
                rcases bit64_01 (p1 / 2 ^ i) with hb | hb
                · go_wp2_with fail
                  go_ret
                  exact ⟨rfl, K2.out.trans HKZ.out⟩
                · have HC2 : Hid (∀ e, 1 ≤ e → e < i + 1 → 5000 < voteK (f0 l p0) (pickB p1) e h → pickB p1 e = true) := Lib.hid (fun e a1 a2 a3 => by
                    by_cases hei : e = i
                    · subst hei; simp [pickB, hb]
                    · exact HC.out e a1 (by omega) a3)
                  go_wp2_with fail
                  go_roundw
                  case rel => exact ⟨i + 1, by omega, by omega, by go_num, HKZ, HC2⟩
                  case measure => simp [intOf]; omega
              · have r1 : decide (5000 < s) = false := decide_eq_false h5
                have HC2 : Hid (∀ e, 1 ≤ e → e < i + 1 → 5000 < voteK (f0 l p0) (pickB p1) e h → pickB p1 e = true) := Lib.hid (fun e a1 a2 a3 => by
                  by_cases hei : e = i
                  · subst hei; rw [← HS.out] at a3; exact absurd a3 h5
                  · exact HC.out e a1 (by omega) a3)
                go_wp2_with fail
                go_roundw
                case rel => exact ⟨i + 1, by omega, by omega, by go_num, HKZ, HC2⟩
                case measure => simp [intOf]; omega
        · obtain rfl : i = m := by omega
          have HALL : Hid (∀ e, inA (f0 l p0) i i e = true → pickB p1 e = true) := Lib.hid (fun e he => inA_closed (fun h e => (HFB.out h e).1) (by simp [pickB]) (fun e h1 h2 => by
            rcases Nat.eq_zero_or_pos e with rfl | h3
            · simp [pickB]
            · exact HC.out e h3 h1 h2) i e he)
          have HKV := Lib.hid (K2.out.trans HKY.out)
          have HS3 := Lib.hid (HS2.out.keeps HKY.out)
          go_wp2_with fail
          go_loopw [14] (fun vi wy => ∃ k : Nat, 1 ≤ k ∧ k ≤ i ∧ vi = .int .i64 k ∧ wy = wr) (fun vi _ => i - (intOf vi).toNat)
          case atStart => exact ⟨1, Nat.le_refl _, hm1, rfl, rfl⟩
          case round =>
            obtain ⟨k, hk1, hk, rfl, rfl⟩ := hrel
            by_cases hlk : k < i
            · have c1 := fnB_cell HS3.out k hlk
              have hix := HS3.out.at1 Try.underlying48 Try.sizeOf4 k hlk
              obtain ⟨q, hq⟩ : ∃ q, inA (f0 l p0) i i k = q := ⟨_, rfl⟩
              have hpk := HALL.out k
              rw [hq] at c1 hpk
              clear hq
              cases q with
              | true =>
                have hpk := hpk rfl
                have hb : bits .and .i64 (p1 / 2 ^ k) 1 = 1 := by
                  unfold pickB at hpk
                  rw [Bool.or_eq_true] at hpk
                  rcases hpk with h1 | h1
                  · simp at h1; omega
                  · simpa using h1
                clear hpk
                go_wp2_with fail
                go_roundw
                case rel => exact ⟨k + 1, by omega, by omega, by go_num, trivial⟩
                case measure => simp [intOf]; omega
              | false =>
                clear hpk
                go_wp2_with fail
                go_roundw
                case rel => exact ⟨k + 1, by omega, by omega, by go_num, trivial⟩
                case measure => simp [intOf]; omega
            · go_wp2_with fail
              go_ret
              exact ⟨rfl, HKV.out⟩
    · rw [hq3] at HM0
      have HM1 : Hid (∀ W, Keeps w W → Calls Try.prog 33 #[.int .i64 n, .slice ao l.length cap, .int .i64 p0] W fun e w' => ∃ ao cap b o, e = .returned (.tuple #[.slice ao 0 cap, .int .i64 re]) ∧ Sl w' 1 ao 0 cap b o [] ∧ Keeps W w') := Lib.hid (fun W hk => HM0.out W hk)
      have e2 : (!(re == 0)) = true := by simpa using h0
      clear HM0 hq1 hq2 hq3
      go_enter Try.func12, Try.ntmps12
      go_wp2_with (go_at_call 32; refine (cawake_any _).mono ?_; rintro e w1 ⟨rfl, hk1⟩; have K1 := Lib.hid (((Keeps.refl w).alloc _).trans hk1); have x0 := hk1.cell (p := ⟨w.heap.size, 0, none⟩) (v := .int .i64 p0) (by go_simp); have x1 := hk1.cell (p := ⟨w.heap.size, 1, none⟩) (v := .int .i64 p1) (by go_simp); have hzx := World.block_lt_of_cell? _ _ x0; clear hk1)
      go_quiet (fail)
      go_wp2_with (go_at_call 33; (refine (HM1.out _ (K1.out.drewN _)).mono ?_); rintro e w2 ⟨ao2, cap2, b2, o2, rfl, hs2, hk2⟩; have K2 := Lib.hid ((K1.out.drewN _).trans hk2); clear hs2 hk2)
      go_ret
      exact ⟨rfl, K2.out⟩
  · have e1 : decide ((30 : Int) < (l.length : Int)) = true := decide_eq_true (by omega)
    go_enter Try.func12, Try.ntmps12
    go_wp2_with (go_at_call 32; refine (cawake_any _).mono ?_; rintro e w1 ⟨rfl, hk1⟩; have K1 := Lib.hid (((Keeps.refl w).alloc _).trans hk1); have x0 := hk1.cell (p := ⟨w.heap.size, 0, none⟩) (v := .int .i64 p0) (by go_simp); have x1 := hk1.cell (p := ⟨w.heap.size, 1, none⟩) (v := .int .i64 p1) (by go_simp); have hzx := World.block_lt_of_cell? _ _ x0; clear hk1)
    go_quiet (fail)
    go_wp2_with fail
    go_ret
    exact ⟨rfl, K1.out.drewN _⟩
end Go.Proofs.Ytmlpdpacefnngaa
