/- MethodAlone: the walk of the law. -/
import Derived.Test.YtkpdimbblcmnaaaLawMAll
namespace Go.Proofs.Ytkpdimbblcmnaaa
open Go.RowKit
set_option linter.unusedSimpArgs false
set_option linter.unusedVariables false

/-- A holding in an entity that counts. -/
def heldP (i day : Int) (x : Hol) : Bool := x.entity == i && decide (0 < x.share) && decide (x.date ≤ day)
theorem held_snoc (l : List Hol) (k : Nat) (hk : k < l.length) (p : Hol → Bool) : (l.take (k + 1)).any p = ((l.take k).any p || p l[k]) := by rw [take_snoc l k hk, List.any_append]; simp
set_option maxRecDepth 100000 in
set_option maxHeartbeats 4000000 in
theorem lawMAlone_any (js : List Bool) (l : List Hol) (day : Int) (ao : Option Addr) (cap b o : Nat) (aol : Option Addr) (capl bl ol : Nat) (w : World) (HJ : Sl w 1 ao js.length cap b o (js.map .bool)) (H : Hols w aol l capl bl ol) (hok : ∀ x ∈ l, x.Ok) :
    Calls Try.prog 6 #[.slice ao js.length cap, .slice aol l.length capl, .int .i64 day] w fun e w' => e = .returned (.bool true) ∧ Keeps w w' := by
  have hcap := HJ.cap
  have hle := HJ.le
  have hcapl := Sl.cap H
  have hlel := Sl.le H
  have HHJ := Lib.hid HJ
  have HH := Lib.hid H
  have HO := Lib.hid hok
  clear HJ H hok
  obtain ⟨f, hfew⟩ : ∃ f, (decide (js.length ≤ 20) && decide (l.length ≤ 30)) = f := ⟨_, rfl⟩
  cases f with
  | true =>
    have hf2 := hfew
    simp only [Bool.and_eq_true, decide_eq_true_eq] at hf2
    obtain ⟨hj20, hl30⟩ := hf2
    have HJ : Hid (∀ W, Keeps w W → Calls Try.prog 15 #[.slice ao js.length cap] W fun e w' => ∃ ao cap b o, e = .returned (.agg #[.string ⟨#[]⟩, .int .i64 0, .int .i64 0, .int .i64 0, .slice none 0 0, .int .i64 0, .int .i64 0, .int .i64 0, .int .i64 0, .int .i64 0, .int .i64 0, .int .i64 0, .int .i64 0, .int .i64 0, .int .i64 0, .int .i64 0, .int .i64 0, .int .i64 0, .int .i64 0, .int .i64 0, .slice ao js.length cap]) ∧ Ents w' ao js cap b o ∧ Keeps W w') := Lib.hid (fun W hk => joint_any js ao cap b o W (HHJ.out.keeps hk) (by omega))
    have hm0 : ∀ W ao cap b o, Keeps w W → Ents W ao js cap b o → Calls Try.prog 16 #[.agg #[.string ⟨#[]⟩, .int .i64 0, .int .i64 0, .int .i64 0, .slice none 0 0, .int .i64 0, .int .i64 0, .int .i64 0, .int .i64 0, .int .i64 0, .int .i64 0, .int .i64 0, .int .i64 0, .int .i64 0, .int .i64 0, .int .i64 0, .int .i64 0, .int .i64 0, .int .i64 0, .int .i64 0, .slice ao js.length cap], .slice aol l.length capl, .int .i64 day] W (OutL W (methR js l day).1 (methR js l day).2) := fun W ao cap b o hk he => all_any js l day ao cap b o aol capl bl ol W he (HH.out.keeps hk) (by omega) HO.out
    rcases meth_cases js l day with ⟨hm1, hm, hv, hd, _, _, hq3⟩ | ⟨re, h0, _, _, hq3⟩
    · unfold OutL at hm0
      rw [hq3] at hm0
      simp only [fnI_len] at hm0
      have HM1 := Lib.hid hm0
      have HM2 : Hid (∀ (i : Nat) W ao cap b o, i < js.length → Keeps w W → Ents W ao js cap b o → Calls Try.prog 19 #[.agg #[.string ⟨#[]⟩, .int .i64 0, .int .i64 0, .int .i64 0, .slice none 0 0, .int .i64 0, .int .i64 0, .int .i64 0, .int .i64 0, .int .i64 0, .int .i64 0, .int .i64 0, .int .i64 0, .int .i64 0, .int .i64 0, .int .i64 0, .int .i64 0, .int .i64 0, .int .i64 0, .int .i64 0, .slice ao js.length cap], .slice aol l.length capl, .int .i64 (i : Int), .int .i64 day] W fun e w' => e = .returned (.tuple #[.int .i64 (mthE (f0 l day) js i), .int .i64 0]) ∧ Keeps W w') := Lib.hid (fun i W ao cap b o hi hk he => by
        have := met_any js l (i : Int) day ao cap b o aol capl bl ol W he (HH.out.keeps hk) (by omega) HO.out
        unfold matR' at this
        rw [hq3, if_pos rfl, if_pos ⟨by omega, by omega⟩] at this
        exact this)
      have HV := Lib.hid hv
      clear hm0 hv hd hq3
      go_enter Try.func6, Try.ntmps6
      go_wp2_with (first | (go_at_call 16; (refine (HM1.out _ _ _ _ _ K2.out HS2.out).mono ?_); rintro e w4 ⟨ao4, cap4, b4, o4, rfl, hs4, hk4⟩; have HS4 := Lib.hid hs4; have K4 := Lib.hid (K2.out.trans hk4); have hc4 := hs4.cap; have hl4 := hs4.le; clear hs4 hk4) | (go_at_call 15; (refine (HJ.out _ K1.out).mono ?_); rintro e w2 ⟨ao2, cap2, b2, o2, rfl, hs2, hk2⟩; have HS2 := Lib.hid hs2; have K2 := Lib.hid (K1.out.trans hk2); clear hs2 hk2) | (go_at_call 14; refine (mfew_any _ _ _ _ _ _ _ _ hfew).mono ?_; rintro e wf ⟨rfl, rfl⟩) | (go_at_call 13; refine (mawake_any _).mono ?_; rintro e w1 ⟨rfl, hk1⟩; have K1 := Lib.hid hk1; clear hk1))
      go_loopw [9] (fun vi wy => ∃ i : Nat, 1 ≤ i ∧ i ≤ js.length ∧ vi = .int .i64 i ∧ Hid (Keeps w4 wy)) (fun vi _ => js.length - (intOf vi).toNat)
      case atStart => exact ⟨1, Nat.le_refl _, hm1, rfl, Lib.hid (Keeps.refl _)⟩
      case round =>
        obtain ⟨i, hi1, hi, rfl, HKY⟩ := hrel
        by_cases hlt : i < js.length
        · go_wp2_with fail
          go_loopw [10, 11] (fun vh vk wy => ∃ (k : Nat) (hb : Bool), k ≤ l.length ∧ vk = .int .i64 k ∧ vh = .bool hb ∧ Hid ((l.take k).any (heldP (i : Int) day) = hb) ∧ Hid (Keeps w4 wy)) (fun _ vk _ => l.length - (intOf vk).toNat)
          case atStart => exact ⟨0, false, Nat.zero_le _, rfl, rfl, Lib.hid rfl, HKY⟩
          case round =>
            obtain ⟨k, hb, hk, rfl, rfl, HB, HKZ⟩ := hrel
            by_cases hlk : k < l.length
            · have hL := HH.out.keeps (K4.out.trans HKZ.out)
              have hix := Sl.at hL Try.underlying23 Try.sizeOf46 k hlk
              have c1 := hL.cell Hol.len k hlk 1 _ rfl
              have c2 := hL.cell Hol.len k hlk 2 _ rfl
              have c3 := hL.cell Hol.len k hlk 3 _ rfl
              have hsn := held_snoc l k hlk (heldP (i : Int) day)
              rw [HB.out] at hsn
              clear hL
              cases hb with
              | true =>
                have HN : Hid ((l.take (k + 1)).any (heldP (i : Int) day) = true) := Lib.hid (by rw [hsn]; rfl)
                clear hsn
                go_wp2_with fail
                go_roundw
                case rel => exact ⟨k + 1, true, by omega, by go_num, rfl, HN, HKZ⟩
                case measure => simp [intOf]; omega
              | false =>
                rw [Bool.false_or] at hsn
                cases he : (l[k].entity == (i : Int)) with
                | false =>
                  have HN : Hid ((l.take (k + 1)).any (heldP (i : Int) day) = false) := Lib.hid (by rw [hsn]; simp [heldP, he])
                  clear hsn
                  go_wp2_with fail
                  go_roundw
                  case rel => exact ⟨k + 1, false, by omega, by go_num, rfl, HN, HKZ⟩
                  case measure => simp [intOf]; omega
                | true =>
                  by_cases hs : 0 < l[k].share
                  · have hs2 : decide (0 < l[k].share) = true := decide_eq_true hs
                    by_cases hdd : l[k].date ≤ day
                    · have hd2 : decide (l[k].date ≤ day) = true := decide_eq_true hdd
                      have HN : Hid ((l.take (k + 1)).any (heldP (i : Int) day) = true) := Lib.hid (by rw [hsn]; simp only [heldP, he, hs2, hd2]; rfl)
                      clear hsn
                      go_wp2_with fail
                      go_roundw
                      case rel => exact ⟨k + 1, true, by omega, by go_num, rfl, HN, HKZ⟩
                      case measure => simp [intOf]; omega
                    · have hd2 : decide (l[k].date ≤ day) = false := decide_eq_false hdd
                      have HN : Hid ((l.take (k + 1)).any (heldP (i : Int) day) = false) := Lib.hid (by rw [hsn]; simp only [heldP, he, hs2, hd2]; rfl)
                      clear hsn
                      go_wp2_with fail
                      go_roundw
                      case rel => exact ⟨k + 1, false, by omega, by go_num, rfl, HN, HKZ⟩
                      case measure => simp [intOf]; omega
                  · have hs2 : decide (0 < l[k].share) = false := decide_eq_false hs
                    have HN : Hid ((l.take (k + 1)).any (heldP (i : Int) day) = false) := Lib.hid (by rw [hsn]; simp only [heldP, he, hs2]; rfl)
                    clear hsn
                    go_wp2_with fail
                    go_roundw
                    case rel => exact ⟨k + 1, false, by omega, by go_num, rfl, HN, HKZ⟩
                    case measure => simp [intOf]; omega
            · obtain rfl : k = l.length := by omega
              have hbb := HB.out
              rw [List.take_length] at hbb
              have HAL : Hid (hb = false → mthE (f0 l day) js i = 0) := Lib.hid (fun h => by
                subst h
                rw [List.any_eq_false] at hbb
                refine mthE_alone HV.out hi1 fun x hx hh => ?_
                have := hbb x hx
                simp [heldP, hh.1, hh.2.1, hh.2.2] at this)
              obtain ⟨v, hvv⟩ : ∃ v, mthE (f0 l day) js i = v := ⟨_, rfl⟩
              have hx := HM2.out i
              have hal := HAL.out
              have c4 := fnI_cell (HS4.out.keeps HKZ.out) i hlt
              have hix4 := HS4.out.at1 Try.underlying35 Try.sizeOf3 i hlt
              rw [hvv] at hx hal c4
              have HX := Lib.hid hx
              have C4 : Hid (∀ W, Keeps wr W → W.cell? ⟨b4, o4 + i, none⟩ = some (.int .i64 v)) := Lib.hid (fun W hk => hk.cell c4)
              clear hbb hvv hx c4 HAL HB
              cases hb with
              | true =>
                clear hal
                go_wp2_with (first | (go_at_call 19; (refine (HX.out _ _ _ _ _ hlt K5.out HS5.out).mono ?_); rintro e w6 ⟨rfl, hk6⟩; have K6 := Lib.hid (D5.out.trans hk6); have c6 := C4.out _ (Z5.out.trans hk6); have hb6 := World.block_lt_of_cell? _ _ c6; clear hk6) | (go_at_call 15; (refine (HJ.out _ (K4.out.trans HKZ.out)).mono ?_); rintro e w5 ⟨ao5, cap5, b5, o5, rfl, hs5, hk5⟩; have HS5 := Lib.hid hs5; have K5 := Lib.hid ((K4.out.trans HKZ.out).trans hk5); have D5 := Lib.hid (HKZ.out.trans hk5); have Z5 := Lib.hid hk5; clear hs5 hk5))
                go_roundw
                case rel => exact ⟨i + 1, by omega, by omega, by go_num, K6⟩
                case measure => simp [intOf]; omega
              | false =>
                obtain rfl := hal rfl
                clear hal
                go_wp2_with (first | (go_at_call 19; (refine (HX.out _ _ _ _ _ hlt K5.out HS5.out).mono ?_); rintro e w6 ⟨rfl, hk6⟩; have K6 := Lib.hid (D5.out.trans hk6); have c6 := C4.out _ (Z5.out.trans hk6); have hb6 := World.block_lt_of_cell? _ _ c6; clear hk6) | (go_at_call 15; (refine (HJ.out _ (K4.out.trans HKZ.out)).mono ?_); rintro e w5 ⟨ao5, cap5, b5, o5, rfl, hs5, hk5⟩; have HS5 := Lib.hid hs5; have K5 := Lib.hid ((K4.out.trans HKZ.out).trans hk5); have D5 := Lib.hid (HKZ.out.trans hk5); have Z5 := Lib.hid hk5; clear hs5 hk5))
                go_roundw
                case rel => exact ⟨i + 1, by omega, by omega, by go_num, K6⟩
                case measure => simp [intOf]; omega
        · go_wp2_with fail
          go_ret
          exact ⟨rfl, K4.out.trans HKY.out⟩
    · unfold OutL at hm0
      rw [hq3] at hm0
      have HM1 := Lib.hid hm0
      have e2 : (!(re == 0)) = true := by simpa using h0
      clear hm0 hq3
      go_enter Try.func6, Try.ntmps6
      go_wp2_with (first | (go_at_call 16; (refine (HM1.out _ _ _ _ _ K2.out HS2.out).mono ?_); rintro e w4 ⟨ao4, cap4, b4, o4, rfl, hs4, hk4⟩; have K4 := Lib.hid (K2.out.trans hk4); clear hs4 hk4) | (go_at_call 15; (refine (HJ.out _ K1.out).mono ?_); rintro e w2 ⟨ao2, cap2, b2, o2, rfl, hs2, hk2⟩; have HS2 := Lib.hid hs2; have K2 := Lib.hid (K1.out.trans hk2); clear hs2 hk2) | (go_at_call 14; refine (mfew_any _ _ _ _ _ _ _ _ hfew).mono ?_; rintro e wf ⟨rfl, rfl⟩) | (go_at_call 13; refine (mawake_any _).mono ?_; rintro e w1 ⟨rfl, hk1⟩; have K1 := Lib.hid hk1; clear hk1))
      go_ret
      exact ⟨rfl, K4.out⟩
  | false =>
    go_enter Try.func6, Try.ntmps6
    go_wp2_with (first | (go_at_call 14; refine (mfew_any _ _ _ _ _ _ _ _ hfew).mono ?_; rintro e wf ⟨rfl, rfl⟩) | (go_at_call 13; refine (mawake_any _).mono ?_; rintro e w1 ⟨rfl, hk1⟩; have K1 := Lib.hid hk1; clear hk1))
    go_ret
    exact ⟨rfl, K1.out⟩
end Go.Proofs.Ytkpdimbblcmnaaa
