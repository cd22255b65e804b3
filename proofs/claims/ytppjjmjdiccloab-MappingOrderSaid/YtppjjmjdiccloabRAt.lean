/- The reference's At: the walk. -/
import Derived.Test.YtppjjmjdiccloabAt
namespace Go.Proofs.Ytppjjmjdiccloab
open Go.RowKit
set_option linter.unusedSimpArgs false
set_option linter.unusedVariables false

/-- The best index so far: -1, or that of the best link. -/
def BestI (links : List Lnk) (code day : Int) (k : Nat) (b : Int) : Prop :=
  (b = -1 ∧ bestL (cands (links.take k) code day) = none) ∨ ∃ j, ∃ h : j < links.length, j < k ∧ b = (j : Int) ∧ bestL (cands (links.take k) code day) = some links[j]
theorem BestI.skip {links : List Lnk} {code day : Int} {k : Nat} {b : Int} (h : BestI links code day k b) (hk : k < links.length) (hc : candB code day links[k] = false) : BestI links code day (k + 1) b := by
  have e : cands (links.take (k + 1)) code day = cands (links.take k) code day := by rw [take_snoc links k hk, cands_snoc, if_neg (by simp [hc])]
  rcases h with ⟨h1, h2⟩ | ⟨j, hj, h1, h2, h3⟩
  · exact .inl ⟨h1, by rw [e]; exact h2⟩
  · exact .inr ⟨j, hj, by omega, h2, by rw [e]; exact h3⟩
theorem BestI.first {links : List Lnk} {code day : Int} {k : Nat} (h : bestL (cands (links.take k) code day) = none) (hk : k < links.length) (hc : candB code day links[k] = true) : BestI links code day (k + 1) k :=
  .inr ⟨k, hk, by omega, rfl, by rw [take_snoc links k hk, cands_snoc, if_pos hc, bestL_snoc, h]⟩
theorem BestI.next {links : List Lnk} {code day : Int} {k j : Nat} (hj : j < links.length) (h : bestL (cands (links.take k) code day) = some links[j]) (hk : k < links.length) (hc : candB code day links[k] = true) (hl : links[j].since < links[k].since) : BestI links code day (k + 1) k :=
  .inr ⟨k, hk, by omega, rfl, by rw [take_snoc links k hk, cands_snoc, if_pos hc, bestL_snoc, h]; simp only [pickL, if_pos hl]⟩
theorem BestI.stay {links : List Lnk} {code day : Int} {k j : Nat} (hj : j < links.length) (hjk : j < k) (h : bestL (cands (links.take k) code day) = some links[j]) (hk : k < links.length) (hc : candB code day links[k] = true) (hl : ¬ links[j].since < links[k].since) : BestI links code day (k + 1) j :=
  .inr ⟨j, hj, by omega, rfl, by rw [take_snoc links k hk, cands_snoc, if_pos hc, bestL_snoc, h]; simp only [pickL, if_neg hl]⟩

set_option maxRecDepth 100000 in
set_option maxHeartbeats 1000000 in
theorem rat_any (en : Ent) (v : Value) (code day : Int) (w : World) (HE : EntV w v en) (hlen : en.links.length ≤ 1000) :
    Calls Try.prog 14 #[v, .int .i64 code, .int .i64 day] w fun e w' => e = .returned (.tuple #[.int .i64 (atS en.chart en.links code day).1, .int .i64 (atS en.chart en.links code day).2]) ∧ Keeps w w' := by
  obtain ⟨cv, lv, rfl, ⟨aoC, capC, bC, oC, rfl, HC⟩, ⟨aoL, capL, bL, oL, rfl, HL⟩⟩ := HE
  have hcap := Sl.cap HL
  have hle := Sl.le HL
  cases hd : dateB day with
  | false =>
    have HS := Lib.hid (atS_day (chart := en.chart) (links := en.links) (code := code) hd)
    go_enter Try.func14, Try.ntmps14
    go_wp2_with (go_at_call 26; refine (rdate_any _ _).mono ?_; rintro e w' ⟨rfl, rfl⟩)
    go_ret2
    exact ⟨by rw [HS.out]; rfl, (Keeps.refl w).alloc _⟩
  | true =>
    cases hf : findA en.chart code with
    | none =>
      have HS := Lib.hid (atS_none (links := en.links) hd hf)
      have HF : Hid (∀ w, Accs w aoC en.chart capC bC oC → Calls Try.prog 25 #[.slice aoC en.chart.length capC, .int .i64 code] w fun e w' => e = .returned (.tuple #[.agg #[.int .i64 0, .int .i64 0, .int .i64 0, .int .i64 0], .bool false]) ∧ Keeps w w') := Lib.hid (fun w h => by have := rfind_any en.chart code aoC capC bC oC w h; rw [hf] at this; exact this)
      clear hf
      go_enter Try.func14, Try.ntmps14
      go_wp2_with (first | (go_at_call 26; refine (rdate_any _ _).mono ?_; rintro e w' ⟨rfl, rfl⟩) | (go_at_call 25; refine (HF.out _ (HC.keeps ((Keeps.refl w).alloc _))).mono ?_; rintro e w2 ⟨rfl, hk2⟩))
      go_ret2
      exact ⟨by rw [HS.out]; rfl, (((Keeps.refl w).alloc _).trans hk2).alloc _⟩
    | some a =>
      have HS := Lib.hid (atS_map (links := en.links) hd hf)
      have HF : Hid (∀ w, Accs w aoC en.chart capC bC oC → Calls Try.prog 25 #[.slice aoC en.chart.length capC, .int .i64 code] w fun e w' => e = .returned (.tuple #[.agg #[.int .i64 a.code, .int .i64 a.kind, .int .i64 a.basis, .int .i64 a.parent], .bool true]) ∧ Keeps w w') := Lib.hid (fun w h => by have := rfind_any en.chart code aoC capC bC oC w h; rw [hf] at this; exact this)
      clear hf
      go_enter Try.func14, Try.ntmps14
      go_wp2_with (first | (go_at_call 26; refine (rdate_any _ _).mono ?_; rintro e w' ⟨rfl, rfl⟩) | (go_at_call 25; refine (HF.out _ (HC.keeps ((Keeps.refl w).alloc _))).mono ?_; rintro e w2 ⟨rfl, hk2⟩; have e3 := hk2.cell (p := ⟨w.heap.size, 3, none⟩) (v := .slice aoL en.links.length capL) (by go_simp); have hz2 := World.block_lt_of_cell? _ _ e3; have K2 := Lib.hid (((Keeps.refl w).alloc _).trans hk2); clear hk2))
      go_loopw [10, 11] (fun vb vi wr => ∃ (k : Nat) (bi : Int), k ≤ en.links.length ∧ vi = .int .i64 k ∧ vb = .int .i64 bi ∧ Hid (BestI en.links code day k bi) ∧ Hid (Keeps w wr ∧ wr.cell? ⟨w.heap.size, 3, none⟩ = some (.slice aoL en.links.length capL))) (fun _ vi _ => en.links.length - (intOf vi).toNat)
      case atStart => exact ⟨0, -1, Nat.zero_le _, rfl, rfl, Lib.hid (.inl ⟨rfl, rfl⟩), Lib.hid ⟨K2.out.alloc _, by go_simp⟩⟩
      case round =>
        clear e3 hz2
        obtain ⟨k, bi, hk, rfl, rfl, HB, HW⟩ := hrel
        have e3 := HW.out.2
        have hbw := World.block_lt_of_cell? wr _ e3
        by_cases hlt : k < en.links.length
        · have HLk := HL.keeps HW.out.1
          have hix := Sl.at HLk Try.underlying23 Try.sizeOf39 k hlt
          have c0 := HLk.cell Lnk.len k hlt 0 _ rfl
          have c1 := HLk.cell Lnk.len k hlt 1 _ rfl
          have c2 := HLk.cell Lnk.len k hlt 2 _ rfl
          simp only [Nat.add_zero] at c0
          have hbl := World.block_lt_of_cell? wr _ c0
          have HW2 : Hid (Keeps w (wr.alloc (.cells #[.int .i64 en.links[k].frm, .int .i64 en.links[k].to, .int .i64 en.links[k].since] 39)) ∧ (wr.alloc (.cells #[.int .i64 en.links[k].frm, .int .i64 en.links[k].to, .int .i64 en.links[k].since] 39)).cell? ⟨w.heap.size, 3, none⟩ = some (.slice aoL en.links.length capL)) := Lib.hid ⟨HW.out.1.alloc _, by go_simp⟩
          cases hc : candB code day en.links[k] with
          | true =>
            have hcc := hc
            unfold candB at hcc
            simp only [Bool.and_eq_true, decide_eq_true_eq, beq_iff_eq] at hcc
            have e1 : (en.links[k].frm == code) = true := by simpa using hcc.1
            have e2 : en.links[k].since ≤ day := hcc.2
            have e2' : decide (en.links[k].since ≤ day) = true := by simpa using e2
            rcases HB.out with ⟨rfl, hn⟩ | ⟨j, hj, hjk, rfl, hbj⟩
            · have HB2 := Lib.hid (BestI.first hn hlt hc)
              have e4 : (-1 : Int) < 0 := by omega
              clear hc hcc hn HB HLk
              go_wp2_with fail
              go_quiet (fail)
              go_wp2_with fail
              go_roundw
              case rel => exact ⟨k + 1, _, by omega, by go_num, rfl, HB2, Lib.hid ⟨HW2.out.1.drewN _, HW2.out.2⟩⟩
              case measure => simp [intOf]; omega
            · have hix2 := Sl.at HLk Try.underlying23 Try.sizeOf39 j hj
              have d2 := HLk.cell Lnk.len j hj 2 _ rfl
              have e4 : ¬ ((j : Int) < 0) := by omega
              by_cases hl : en.links[j].since < en.links[k].since
              · have HB2 := Lib.hid (BestI.next hj hbj hlt hc hl)
                clear hc hcc hbj HB HLk
                go_wp2_with fail
                go_quiet (fail)
                go_wp2_with fail
                go_roundw
                case rel => exact ⟨k + 1, _, by omega, by go_num, rfl, HB2, Lib.hid ⟨HW2.out.1.drewN _, HW2.out.2⟩⟩
                case measure => simp [intOf]; omega
              · have HB2 := Lib.hid (BestI.stay hj hjk hbj hlt hc hl)
                clear hc hcc hbj HB HLk
                go_wp2_with fail
                go_quiet (fail)
                go_wp2_with fail
                go_roundw
                case rel => exact ⟨k + 1, _, by omega, by go_num, rfl, HB2, Lib.hid ⟨HW2.out.1.drewN _, HW2.out.2⟩⟩
                case measure => simp [intOf]; omega
          | false =>
            have HB2 := Lib.hid (HB.out.skip hlt hc)
            have hcc := hc
            unfold candB at hcc
            simp only [Bool.and_eq_false_iff, decide_eq_false_iff_not, beq_eq_false_iff_ne] at hcc
            by_cases e1 : en.links[k].frm = code
            · have e1' : (en.links[k].frm == code) = true := by simpa using e1
              have e2 : ¬ en.links[k].since ≤ day := by rcases hcc with h | h; exact absurd e1 h; exact h
              have e2' : decide (en.links[k].since ≤ day) = false := by simpa using e2
              clear hc hcc e1 HB HLk
              go_wp2_with fail
              go_quiet (fail)
              go_wp2_with fail
              go_roundw
              case rel => exact ⟨k + 1, _, by omega, by go_num, rfl, HB2, Lib.hid ⟨HW2.out.1.drewN _, HW2.out.2⟩⟩
              case measure => simp [intOf]; omega
            · have e1' : (en.links[k].frm == code) = false := by simpa using e1
              clear hc hcc e1 HB HLk
              go_wp2_with fail
              go_quiet (fail)
              go_wp2_with fail
              go_roundw
              case rel => exact ⟨k + 1, _, by omega, by go_num, rfl, HB2, Lib.hid ⟨HW2.out.1.drewN _, HW2.out.2⟩⟩
              case measure => simp [intOf]; omega
        · obtain rfl : k = en.links.length := by omega
          have hB := HB.out
          unfold BestI at hB
          rw [List.take_length] at hB
          rcases hB with ⟨rfl, hn⟩ | ⟨j, hj, hjk, rfl, hbj⟩
          · rw [hn] at HS
            clear hn
            go_wp2
            go_ret2
            exact ⟨by rw [HS.out]; rfl, HW.out.1⟩
          · rw [hbj] at HS
            have HLk := HL.keeps HW.out.1
            have hix2 := Sl.at HLk Try.underlying23 Try.sizeOf39 j hj
            have d1 := HLk.cell Lnk.len j hj 1 _ rfl
            have e4 : ¬ ((j : Int) < 0) := by omega
            clear hbj HB HLk
            go_wp2
            go_ret2
            exact ⟨by rw [HS.out]; rfl, HW.out.1⟩
end Go.Proofs.Ytppjjmjdiccloab
