/- mapping.At and the reference's At: the walks. -/
import Derived.Test.YtppjjmjdiccloabAtW
namespace Go.Proofs.Ytppjjmjdiccloab
open Go.RowKit
set_option linter.unusedSimpArgs false

theorem fieldLnk1 (a b c : Value) (w : World) : (Instr.field 39 (.agg #[a, b, c]) 1).run Try.prog w = .ok b w := by kernel_rfl
theorem elemLnk : ElemOf Try.prog 23 39 (.agg #[.int .i64 0, .int .i64 0, .int .i64 0]) 3 24 := ⟨Try.underlying23, by kernel_rfl, rfl, by omega⟩

set_option maxRecDepth 100000 in
set_option maxHeartbeats 1000000 in
theorem at_any (en : Ent) (v : Value) (code day : Int) (w : World) (HE : EntV w v en) (hlen : en.links.length ≤ 1000) :
    Calls Try.prog 13 #[v, .int .i64 code, .int .i64 day] w fun e w' => e = .returned (.tuple #[.int .i64 (atS en.chart en.links code day).1, .int .i64 (atS en.chart en.links code day).2]) ∧ Keeps w w' := by
  obtain ⟨cv, lv, rfl, ⟨aoC, capC, bC, oC, rfl, HC⟩, ⟨aoL, capL, bL, oL, rfl, HL⟩⟩ := HE
  have hcap := Sl.cap HL
  have hle := Sl.le HL
  cases hd : dateB day with
  | false =>
    have HS := Lib.hid (atS_day (chart := en.chart) (links := en.links) (code := code) hd)
    go_enter Try.func13, Try.ntmps13
    go_wp2_with (go_at_call 27; refine (date_any _ _).mono ?_; rintro e w' ⟨rfl, rfl⟩)
    go_ret2
    exact ⟨by rw [HS.out]; rfl, (Keeps.refl w).alloc _⟩
  | true =>
    cases hf : findA en.chart code with
    | none =>
      have HS := Lib.hid (atS_none (links := en.links) hd hf)
      have HF : Hid (∀ w, Accs w aoC en.chart capC bC oC → Calls Try.prog 28 #[.slice aoC en.chart.length capC, .int .i64 code] w fun e w' => e = .returned (.tuple #[Acc.zero.val, .bool false]) ∧ Keeps w w') := Lib.hid (fun w h => by have := find_any en.chart code aoC capC bC oC w h; rw [hf] at this; exact this)
      clear hf
      go_enter Try.func13, Try.ntmps13
      go_wp2_with (first | (go_at_call 27; refine (date_any _ _).mono ?_; rintro e w' ⟨rfl, rfl⟩) | (go_at_call 28; refine (HF.out _ (HC.keeps ((Keeps.refl w).alloc _))).mono ?_; rintro e w2 ⟨rfl, hk2⟩; unfold Acc.val Acc.zero))
      go_ret2
      exact ⟨by rw [HS.out]; rfl, (((Keeps.refl w).alloc _).trans hk2).alloc _⟩
    | some a =>
      have HS := Lib.hid (atS_map (links := en.links) hd hf)
      have HF : Hid (∀ w, Accs w aoC en.chart capC bC oC → Calls Try.prog 28 #[.slice aoC en.chart.length capC, .int .i64 code] w fun e w' => e = .returned (.tuple #[a.val, .bool true]) ∧ Keeps w w') := Lib.hid (fun w h => by have := find_any en.chart code aoC capC bC oC w h; rw [hf] at this; exact this)
      clear hf
      go_enter Try.func13, Try.ntmps13
      go_wp2_with (first | (go_at_call 27; refine (date_any _ _).mono ?_; rintro e w' ⟨rfl, rfl⟩) | (go_at_call 28; refine (HF.out _ (HC.keeps ((Keeps.refl w).alloc _))).mono ?_; rintro e w2 ⟨rfl, hk2⟩; unfold Acc.val; have e3 := hk2.cell (p := ⟨w.heap.size, 3, none⟩) (v := .slice aoL en.links.length capL) (by go_simp); have hz2 := World.block_lt_of_cell? _ _ e3; have K2 := Lib.hid (((Keeps.refl w).alloc _).trans hk2); clear hk2))
      go_loopw [10, 28] (fun vo vi wr => ∃ (k m : Nat), k ≤ en.links.length ∧ m ≤ k ∧ vi = .int .i64 k ∧ Hid ((cands (en.links.take k) code day).length = m ∧ Keeps w wr ∧ wr.ownsRow w.heap.size 39 3 vo m ((cands (en.links.take k) code day).flatMap Lnk.cells))) (fun _ vi _ => en.links.length - (intOf vi).toNat)
      case atStart => exact ⟨0, 0, Nat.zero_le _, Nat.le_refl _, rfl, Lib.hid ⟨rfl, K2.out.alloc _, World.ownsRow_nil _ _ _ _⟩⟩
      case round =>
        clear e3 hz2
        obtain ⟨k, m, hk, hmk, rfl, HW⟩ := hrel
        by_cases hlt : k < en.links.length
        · have HLk := HL.keeps HW.out.2.1
          have hix := Sl.at HLk Try.underlying23 Try.sizeOf39 k hlt
          have c0 := HLk.cell Lnk.len k hlt 0 _ rfl
          have c1 := HLk.cell Lnk.len k hlt 1 _ rfl
          have c2 := HLk.cell Lnk.len k hlt 2 _ rfl
          simp only [Nat.add_zero] at c0
          have hbl := World.block_lt_of_cell? wr _ c0
          have HT := Lib.hid (take_snoc en.links k hlt)
          clear HLk
          cases hc : candB code day en.links[k] with
          | true =>
            have HC1 : Hid (cands (en.links.take (k + 1)) code day = cands (en.links.take k) code day ++ [en.links[k]]) := Lib.hid (by rw [HT.out, cands_snoc, if_pos hc])
            have hcc := hc
            unfold candB at hcc
            simp only [Bool.and_eq_true, decide_eq_true_eq, beq_iff_eq] at hcc
            have e1 : (en.links[k].frm == code) = true := by simpa using hcc.1
            have e2 : en.links[k].since ≤ day := hcc.2
            clear hc hcc
            go_wp2_with (at_builtin; (refine wpList_appx elemLnk rfl _ _ rfl w _ _ _ rfl w.heap.size (HW.out.2.2.alloc _) (HW.out.2.1.alloc _) (by have := HW.out.2.1.size; simp; omega) [.int .i64 en.links[k].frm, .int .i64 en.links[k].to, .int .i64 en.links[k].since] _ 1 rfl (by simp) rfl (by intro u hu; simp at hu; rcases hu with rfl | rfl | rfl <;> rfl) ?c3 ?c4 ?_))
            case c3 => omega
            case c4 => omega
            intro v3 w3 hown3 hb3 hsz3
            have HW3 : Hid ((cands (en.links.take (k + 1)) code day).length = m + 1 ∧ Keeps w w3 ∧ w3.ownsRow w.heap.size 39 3 v3 (m + 1) ((cands (en.links.take (k + 1)) code day).flatMap Lnk.cells)) := Lib.hid ⟨by rw [HC1.out, List.length_append, HW.out.1]; rfl, hb3, by rw [HC1.out, List.flatMap_append]; exact hown3⟩
            clear hown3 hb3 hsz3 HW
            go_wp2
            go_roundw
            case rel => exact ⟨k + 1, m + 1, by omega, by omega, by go_num, HW3⟩
            case measure => simp [intOf]; omega
          | false =>
            have HC1 : Hid (cands (en.links.take (k + 1)) code day = cands (en.links.take k) code day) := Lib.hid (by rw [HT.out, cands_snoc, if_neg (by simp [hc])])
            have hcc := hc
            unfold candB at hcc
            simp only [Bool.and_eq_false_iff, decide_eq_false_iff_not, beq_eq_false_iff_ne] at hcc
            have HW3 : Hid (Keeps w wr → (cands (en.links.take (k + 1)) code day).length = m ∧ Keeps w (wr.alloc (.cells #[.int .i64 en.links[k].frm, .int .i64 en.links[k].to, .int .i64 en.links[k].since] 39)) ∧ (wr.alloc (.cells #[.int .i64 en.links[k].frm, .int .i64 en.links[k].to, .int .i64 en.links[k].since] 39)).ownsRow w.heap.size 39 3 u10 m ((cands (en.links.take (k + 1)) code day).flatMap Lnk.cells)) := Lib.hid (fun h => by rw [HC1.out]; exact ⟨HW.out.1, h.alloc _, HW.out.2.2.alloc _⟩)
            by_cases e1 : en.links[k].frm = code
            · have e1' : (en.links[k].frm == code) = true := by simpa using e1
              have e2 : ¬ en.links[k].since ≤ day := by rcases hcc with h | h; exact absurd e1 h; exact h
              clear hc hcc e1
              go_wp2
              go_roundw
              case rel => exact ⟨k + 1, m, by omega, by omega, by go_num, Lib.hid (HW3.out HW.out.2.1)⟩
              case measure => simp [intOf]; omega
            · have e1' : (en.links[k].frm == code) = false := by simpa using e1
              clear hc hcc e1
              go_wp2
              go_roundw
              case rel => exact ⟨k + 1, m, by omega, by omega, by go_num, Lib.hid (HW3.out HW.out.2.1)⟩
              case measure => simp [intOf]; omega
        · obtain rfl : k = en.links.length := by omega
          have hlm : m ≤ 1000 := by omega
          rw [List.take_length] at HW
          have HI : Hid (LnkL wr u10 (cands en.links code day)) := Lib.hid (by
            have h1 := HW.out.2.2
            rw [← HW.out.1] at h1
            obtain ⟨ao3, cap3, b3, h2, h3⟩ := Recs.own h1
            exact ⟨ao3, cap3, b3, 0, h2, h3⟩)
          obtain ⟨ao3, cap3, b3, o3, hv, hl3⟩ := HI.out
          have hm3 := HW.out.1
          rw [hm3] at hv
          have HL3 := Lib.hid hl3
          have HK3 := Lib.hid HW.out.2.1
          have HM3 := Lib.hid hm3
          subst hv
          clear hl3 hm3 HW HI HF K2
          cases hbest : bestL (cands en.links code day) with
          | none =>
            have hm0 : m = 0 := by rw [← HM3.out, bestL_none.1 hbest]; rfl
            subst hm0
            rw [hbest] at HS
            clear hbest
            go_wp2
            go_ret2
            exact ⟨by rw [HS.out]; rfl, HK3.out⟩
          | some x =>
            have hm0 : ((m : Int) == 0) = false := by
              have : m ≠ 0 := fun h => by
                rw [h] at HM3
                rw [List.eq_nil_of_length_eq_zero HM3.out] at hbest
                cases hbest
              rw [beq_eq_false_iff_ne]; omega
            have HX : Hid (Calls Try.prog 29 #[.slice ao3 m cap3, .func (.func 30) #[] #[]] wr fun e w' => e = .returned (.agg #[.int .i64 x.frm, .int .i64 x.to, .int .i64 x.since]) ∧ Keeps wr w') := Lib.hid (by have := max_any _ x ao3 cap3 b3 o3 wr HL3.out hbest; rw [HM3.out] at this; exact this)
            rw [hbest] at HS
            clear hbest
            have hfl := fieldLnk1
            go_wp2_with (go_at_call 29; refine HX.out.mono ?_; rintro e w4 ⟨rfl, hk4⟩)
            go_ret2
            exact ⟨by rw [HS.out]; rfl, HK3.out.trans hk4⟩
end Go.Proofs.Ytppjjmjdiccloab
