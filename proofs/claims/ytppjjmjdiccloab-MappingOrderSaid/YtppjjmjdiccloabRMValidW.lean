/- The reference's Valid of a mapping: the walk. -/
import Derived.Test.YtppjjmjdiccloabMValidP
import Derived.Deep.QuietTactic
import Derived.BigQuiet
namespace Go.Proofs.Ytppjjmjdiccloab
open Go.RowKit
set_option linter.unusedSimpArgs false
set_option linter.unusedVariables false

theorem link_facts (x c : List Acc) (l : Lnk) : ∃ (a : Acc) (p : Bool) (d : Acc) (q : Bool), AccO (findA x l.frm) = .tuple #[.agg #[.int .i64 a.code, .int .i64 a.kind, .int .i64 a.basis, .int .i64 a.parent], .bool p] ∧
    AccO (findA c l.to) = .tuple #[.agg #[.int .i64 d.code, .int .i64 d.kind, .int .i64 d.basis, .int .i64 d.parent], .bool q] ∧ linkB x c l = (p && q && (a.kind == d.kind) && dateB l.since) := by
  refine ⟨_, _, _, _, rfl, rfl, ?_⟩
  unfold linkB
  cases findA x l.frm <;> cases findA c l.to <;> simp
theorem any_take_no {ls : List Lnk} {k : Nat} (hk : k < ls.length) (h : ∀ i (hi : i < ls.length), i < k → sameK ls[i] ls[k] = false) : (ls.take k).any (fun a => sameK a ls[k]) = false := by
  rw [Bool.eq_false_iff]
  intro h1
  rw [List.any_eq_true] at h1
  obtain ⟨a, ha, h2⟩ := h1
  obtain ⟨i, hi, rfl⟩ := List.getElem_of_mem ha
  rw [List.length_take] at hi
  rw [List.getElem_take] at h2
  rw [h i (by omega) (by omega)] at h2
  cases h2
theorem any_take_yes {ls : List Lnk} {k i : Nat} (hk : k < ls.length) (hi : i < k) (h : sameK (ls[i]'(by omega)) ls[k] = true) : (ls.take k).any (fun a => sameK a ls[k]) = true := by
  rw [List.any_eq_true]
  refine ⟨ls[i]'(by omega), ?_, h⟩
  rw [List.mem_take_iff_getElem]
  exact ⟨i, by omega, rfl⟩

set_option maxRecDepth 100000 in
set_option maxHeartbeats 8000000 in
theorem rmvalid_any (en : Ent) (v : Value) (c : List Acc) (ao : Option Addr) (cap b o : Nat) (w : World) (HE : EntV w v en) (H2 : Accs w ao c cap b o) (hc : c.length ≤ 200) (hx : en.chart.length ≤ 200) (hl : en.links.length ≤ 400) :
    Calls Try.prog 12 #[v, .slice ao c.length cap] w fun e w' => e = .returned (.bool (mvalidB en c)) ∧ Keeps w w' := by
  obtain ⟨cv, lv, rfl, ⟨aoC, capC, bC, oC, rfl, HC⟩, ⟨aoL, capL, bL, oL, rfl, HL⟩⟩ := HE
  have hleL := Sl.le HL
  have hcapL := Sl.cap HL
  have HC := Lib.hid HC
  have HL := Lib.hid HL
  have HC2 := Lib.hid H2
  have HV1 : Hid (∀ W, Accs W ao c cap b o → Calls Try.prog 24 #[.slice ao c.length cap, .bool true] W fun e w' => e = .returned (.bool (validRB c true)) ∧ Keeps W w') := Lib.hid (fun W h => rvalid_any c true ao cap b o W h hc)
  have HV2 : Hid (∀ W, Accs W aoC en.chart capC bC oC → Calls Try.prog 24 #[.slice aoC en.chart.length capC, .bool false] W fun e w' => e = .returned (.bool (validRB en.chart false)) ∧ Keeps W w') := Lib.hid (fun W h => rvalid_any en.chart false aoC capC bC oC W h hx)
  clear H2
  cases h1 : validRB c true with
  | false =>
    have HF := Lib.hid (mvalidB_1 (en := en) h1)
    rw [h1] at HV1
    clear h1
    go_enter Try.func12, Try.ntmps12
    go_wp2_with (go_at_call 24; (with_reducible refine (HV1.out _ (HC2.out.keeps ((Keeps.refl w).alloc _))).mono ?_); rintro e1 w1 ⟨rfl, hk1⟩; have K1 := Lib.hid hk1; have b_2 := hk1.cell (p := ⟨w.heap.size, 2, none⟩) (v := .slice aoC en.chart.length capC) (by go_simp); have b_3 := hk1.cell (p := ⟨w.heap.size, 3, none⟩) (v := .slice aoL en.links.length capL) (by go_simp); have hz1 := World.block_lt_of_cell? _ _ b_3; clear hk1)
    go_ret
    rw [HF.out]
    exact ⟨rfl, ((Keeps.refl w).alloc _).trans K1.out⟩
  | true =>
    rw [h1] at HV1
    have H1 := Lib.hid h1
    clear h1
    cases h2 : validRB en.chart false with
    | false =>
      have HF := Lib.hid (mvalidB_2 (c := c) h2)
      rw [h2] at HV2
      clear h2
      go_enter Try.func12, Try.ntmps12
      go_wp2_with (first | (go_at_call 24; (with_reducible refine (HV2.out _ (HC.out.keeps (((Keeps.refl w).alloc _).trans K1.out))).mono ?_); rintro e2 w2 ⟨rfl, hk2⟩; have c_3 := hk2.cell b_3; have hz2 := World.block_lt_of_cell? _ _ c_3; have K2 := Lib.hid (K1.out.trans hk2); clear hk2 b_2 b_3) | (go_at_call 24; (with_reducible refine (HV1.out _ (HC2.out.keeps ((Keeps.refl w).alloc _))).mono ?_); rintro e1 w1 ⟨rfl, hk1⟩; have K1 := Lib.hid hk1; have b_2 := hk1.cell (p := ⟨w.heap.size, 2, none⟩) (v := .slice aoC en.chart.length capC) (by go_simp); have b_3 := hk1.cell (p := ⟨w.heap.size, 3, none⟩) (v := .slice aoL en.links.length capL) (by go_simp); have hz1 := World.block_lt_of_cell? _ _ b_3; clear hk1))
      go_ret
      rw [HF.out]
      exact ⟨rfl, ((Keeps.refl w).alloc _).trans K2.out⟩
    | true =>
      rw [h2] at HV2
      have H2 := Lib.hid h2
      clear h2
      go_enter Try.func12, Try.ntmps12
      go_wp2_with (first | (go_at_call 24; (with_reducible refine (HV2.out _ (HC.out.keeps (((Keeps.refl w).alloc _).trans K1.out))).mono ?_); rintro e2 w2 ⟨rfl, hk2⟩; have c_3 := hk2.cell b_3; have hz2 := World.block_lt_of_cell? _ _ c_3; have K2 := Lib.hid (K1.out.trans hk2); clear hk2 b_2 b_3) | (go_at_call 24; (with_reducible refine (HV1.out _ (HC2.out.keeps ((Keeps.refl w).alloc _))).mono ?_); rintro e1 w1 ⟨rfl, hk1⟩; have K1 := Lib.hid hk1; have b_2 := hk1.cell (p := ⟨w.heap.size, 2, none⟩) (v := .slice aoC en.chart.length capC) (by go_simp); have b_3 := hk1.cell (p := ⟨w.heap.size, 3, none⟩) (v := .slice aoL en.links.length capL) (by go_simp); have hz1 := World.block_lt_of_cell? _ _ b_3; clear hk1))
      go_loopw [5] (fun vi wr => ∃ k : Nat, k ≤ en.links.length ∧ vi = .int .i64 k ∧ Hid (∀ j < k, okL en.chart c en.links j = true) ∧ Hid (Keeps (w.alloc (.cells #[.string en.name, .string en.cur, .slice aoC en.chart.length capC, .slice aoL en.links.length capL, .bool en.joint] 25)) wr)) (fun vi _ => en.links.length - (intOf vi).toNat)
      case atStart => exact ⟨0, Nat.zero_le _, rfl, Lib.hid (fun j hj => absurd hj (Nat.not_lt_zero _)), Lib.hid K2.out⟩
      case round =>
        obtain ⟨k, hk, rfl, HN, HW⟩ := hrel
        have d_3 := HW.out.cell (p := ⟨w.heap.size, 3, none⟩) (v := .slice aoL en.links.length capL) (by go_simp)
        by_cases hlt : k < en.links.length
        · have HLr := HL.out.keeps (((Keeps.refl w).alloc _).trans HW.out)
          have hix := Sl.at HLr Try.underlying23 Try.sizeOf39 k hlt
          have l0 := HLr.cell Lnk.len k hlt 0 _ rfl
          have l1 := HLr.cell Lnk.len k hlt 1 _ rfl
          have l2 := HLr.cell Lnk.len k hlt 2 _ rfl
          simp only [Nat.add_zero] at l0
          have d_2 := HW.out.cell (p := ⟨w.heap.size, 2, none⟩) (v := .slice aoC en.chart.length capC) (by go_simp)
          have hzr := World.block_lt_of_cell? _ _ d_2
          have hokl := okL_at (x := en.chart) (c := c) hlt
          obtain ⟨a, p, d, q, ha, hd, hlb⟩ := link_facts en.chart c en.links[k]
          have HA : Hid (∀ W, Accs W aoC en.chart capC bC oC → Calls Try.prog 25 #[.slice aoC en.chart.length capC, .int .i64 en.links[k].frm] W fun e w' => e = .returned (.tuple #[.agg #[.int .i64 a.code, .int .i64 a.kind, .int .i64 a.basis, .int .i64 a.parent], .bool p]) ∧ Keeps W w') := Lib.hid (fun W h => by have := rfind_any en.chart en.links[k].frm aoC capC bC oC W h; rw [ha] at this; exact this)
          have HB : Hid (∀ W, Accs W ao c cap b o → Calls Try.prog 25 #[.slice ao c.length cap, .int .i64 en.links[k].to] W fun e w' => e = .returned (.tuple #[.agg #[.int .i64 d.code, .int .i64 d.kind, .int .i64 d.basis, .int .i64 d.parent], .bool q]) ∧ Keeps W w') := Lib.hid (fun W h => by have := rfind_any c en.links[k].to ao cap b o W h; rw [hd] at this; exact this)
          obtain ⟨dv, hdv⟩ : ∃ dv, dateB en.links[k].since = dv := ⟨_, rfl⟩
          have HD : Hid (∀ W, Calls Try.prog 26 #[.int .i64 en.links[k].since] W fun e w' => e = .returned (.bool dv) ∧ W = w') := Lib.hid (fun W => by have := rdate_any en.links[k].since W; rw [hdv] at this; exact this)
          rw [hdv] at hlb
          rw [hlb] at hokl
          clear HLr ha hd hlb hdv
          cases p with
          | false =>
            have HQ := Lib.hid (mvalidB_bad hlt (hokl.trans (by simp only [Bool.and_false, Bool.false_and, Bool.true_and, Bool.and_true])))
            clear hokl
            go_wp2_with (first | (go_at_call 26; refine (HD.out _).mono ?_; rintro e5 w5 ⟨rfl, rfl⟩) | (go_at_call 25; (with_reducible refine (HB.out _ (HC2.out.keeps (((Keeps.refl w).alloc _).trans K3.out))).mono ?_); rintro e4 w4 ⟨rfl, hk4⟩; have z0 := hk4.cell y0; have z2 := hk4.cell y2; have za := hk4.cell ya; have hz4 := World.block_lt_of_cell? _ _ z0; have hz5 := World.block_lt_of_cell? _ _ za; have K4 := Lib.hid (K3.out.trans hk4); clear hk4 y0 y2 ya x0 x1 x2) | (go_at_call 25; (with_reducible refine (HA.out _ (HC.out.keeps (((Keeps.refl w).alloc _).trans (HW.out.alloc _)))).mono ?_); rintro e3 w3 ⟨rfl, hk3⟩; have x0 := hk3.cell (p := ⟨wr.heap.size, 0, none⟩) (v := .int .i64 en.links[k].frm) (by go_simp); have x1 := hk3.cell (p := ⟨wr.heap.size, 1, none⟩) (v := .int .i64 en.links[k].to) (by go_simp); have x2 := hk3.cell (p := ⟨wr.heap.size, 2, none⟩) (v := .int .i64 en.links[k].since) (by go_simp); have hz3 := World.block_lt_of_cell? _ _ x0; have y0 : (w3.alloc (.cells #[.int .i64 a.code, .int .i64 a.kind, .int .i64 a.basis, .int .i64 a.parent] 50)).cell? ⟨wr.heap.size, 0, none⟩ = some (.int .i64 en.links[k].frm) := (by go_simp); have y2 : (w3.alloc (.cells #[.int .i64 a.code, .int .i64 a.kind, .int .i64 a.basis, .int .i64 a.parent] 50)).cell? ⟨wr.heap.size, 2, none⟩ = some (.int .i64 en.links[k].since) := (by go_simp); have ya : (w3.alloc (.cells #[.int .i64 a.code, .int .i64 a.kind, .int .i64 a.basis, .int .i64 a.parent] 50)).cell? ⟨w3.heap.size, 1, none⟩ = some (.int .i64 a.kind) := (by go_simp); have K3 := Lib.hid (((HW.out.alloc (.cells #[.int .i64 en.links[k].frm, .int .i64 en.links[k].to, .int .i64 en.links[k].since] 39)).trans hk3).alloc (.cells #[.int .i64 a.code, .int .i64 a.kind, .int .i64 a.basis, .int .i64 a.parent] 50)); clear hk3))
            go_ret
            rw [HQ.out]
            exact ⟨rfl, ((Keeps.refl w).alloc _).trans (K4.out.alloc _)⟩
          | true =>
            cases q with
            | false =>
              have HQ := Lib.hid (mvalidB_bad hlt (hokl.trans (by simp only [Bool.and_false, Bool.false_and, Bool.true_and, Bool.and_true])))
              clear hokl
              go_wp2_with (first | (go_at_call 26; refine (HD.out _).mono ?_; rintro e5 w5 ⟨rfl, rfl⟩) | (go_at_call 25; (with_reducible refine (HB.out _ (HC2.out.keeps (((Keeps.refl w).alloc _).trans K3.out))).mono ?_); rintro e4 w4 ⟨rfl, hk4⟩; have z0 := hk4.cell y0; have z2 := hk4.cell y2; have za := hk4.cell ya; have hz4 := World.block_lt_of_cell? _ _ z0; have hz5 := World.block_lt_of_cell? _ _ za; have K4 := Lib.hid (K3.out.trans hk4); clear hk4 y0 y2 ya x0 x1 x2) | (go_at_call 25; (with_reducible refine (HA.out _ (HC.out.keeps (((Keeps.refl w).alloc _).trans (HW.out.alloc _)))).mono ?_); rintro e3 w3 ⟨rfl, hk3⟩; have x0 := hk3.cell (p := ⟨wr.heap.size, 0, none⟩) (v := .int .i64 en.links[k].frm) (by go_simp); have x1 := hk3.cell (p := ⟨wr.heap.size, 1, none⟩) (v := .int .i64 en.links[k].to) (by go_simp); have x2 := hk3.cell (p := ⟨wr.heap.size, 2, none⟩) (v := .int .i64 en.links[k].since) (by go_simp); have hz3 := World.block_lt_of_cell? _ _ x0; have y0 : (w3.alloc (.cells #[.int .i64 a.code, .int .i64 a.kind, .int .i64 a.basis, .int .i64 a.parent] 50)).cell? ⟨wr.heap.size, 0, none⟩ = some (.int .i64 en.links[k].frm) := (by go_simp); have y2 : (w3.alloc (.cells #[.int .i64 a.code, .int .i64 a.kind, .int .i64 a.basis, .int .i64 a.parent] 50)).cell? ⟨wr.heap.size, 2, none⟩ = some (.int .i64 en.links[k].since) := (by go_simp); have ya : (w3.alloc (.cells #[.int .i64 a.code, .int .i64 a.kind, .int .i64 a.basis, .int .i64 a.parent] 50)).cell? ⟨w3.heap.size, 1, none⟩ = some (.int .i64 a.kind) := (by go_simp); have K3 := Lib.hid (((HW.out.alloc (.cells #[.int .i64 en.links[k].frm, .int .i64 en.links[k].to, .int .i64 en.links[k].since] 39)).trans hk3).alloc (.cells #[.int .i64 a.code, .int .i64 a.kind, .int .i64 a.basis, .int .i64 a.parent] 50)); clear hk3))
              go_ret
              rw [HQ.out]
              exact ⟨rfl, ((Keeps.refl w).alloc _).trans (K4.out.alloc _)⟩
            | true =>
              cases hkd : (a.kind == d.kind) with
              | false =>
                have hkd2 : (a.kind != d.kind) = true := by rw [bne, hkd]; rfl
                rw [hkd] at hokl
                have HQ := Lib.hid (mvalidB_bad hlt (hokl.trans (by simp only [Bool.and_false, Bool.false_and, Bool.true_and, Bool.and_true])))
                clear hokl
                go_wp2_with (first | (go_at_call 26; refine (HD.out _).mono ?_; rintro e5 w5 ⟨rfl, rfl⟩) | (go_at_call 25; (with_reducible refine (HB.out _ (HC2.out.keeps (((Keeps.refl w).alloc _).trans K3.out))).mono ?_); rintro e4 w4 ⟨rfl, hk4⟩; have z0 := hk4.cell y0; have z2 := hk4.cell y2; have za := hk4.cell ya; have hz4 := World.block_lt_of_cell? _ _ z0; have hz5 := World.block_lt_of_cell? _ _ za; have K4 := Lib.hid (K3.out.trans hk4); clear hk4 y0 y2 ya x0 x1 x2) | (go_at_call 25; (with_reducible refine (HA.out _ (HC.out.keeps (((Keeps.refl w).alloc _).trans (HW.out.alloc _)))).mono ?_); rintro e3 w3 ⟨rfl, hk3⟩; have x0 := hk3.cell (p := ⟨wr.heap.size, 0, none⟩) (v := .int .i64 en.links[k].frm) (by go_simp); have x1 := hk3.cell (p := ⟨wr.heap.size, 1, none⟩) (v := .int .i64 en.links[k].to) (by go_simp); have x2 := hk3.cell (p := ⟨wr.heap.size, 2, none⟩) (v := .int .i64 en.links[k].since) (by go_simp); have hz3 := World.block_lt_of_cell? _ _ x0; have y0 : (w3.alloc (.cells #[.int .i64 a.code, .int .i64 a.kind, .int .i64 a.basis, .int .i64 a.parent] 50)).cell? ⟨wr.heap.size, 0, none⟩ = some (.int .i64 en.links[k].frm) := (by go_simp); have y2 : (w3.alloc (.cells #[.int .i64 a.code, .int .i64 a.kind, .int .i64 a.basis, .int .i64 a.parent] 50)).cell? ⟨wr.heap.size, 2, none⟩ = some (.int .i64 en.links[k].since) := (by go_simp); have ya : (w3.alloc (.cells #[.int .i64 a.code, .int .i64 a.kind, .int .i64 a.basis, .int .i64 a.parent] 50)).cell? ⟨w3.heap.size, 1, none⟩ = some (.int .i64 a.kind) := (by go_simp); have K3 := Lib.hid (((HW.out.alloc (.cells #[.int .i64 en.links[k].frm, .int .i64 en.links[k].to, .int .i64 en.links[k].since] 39)).trans hk3).alloc (.cells #[.int .i64 a.code, .int .i64 a.kind, .int .i64 a.basis, .int .i64 a.parent] 50)); clear hk3))
                go_ret
                rw [HQ.out]
                exact ⟨rfl, ((Keeps.refl w).alloc _).trans (K4.out.alloc _)⟩
              | true =>
                have hkd2 : (a.kind != d.kind) = false := by rw [bne, hkd]; rfl
                rw [hkd] at hokl
                cases dv with
                | false =>
                  have HQ := Lib.hid (mvalidB_bad hlt (hokl.trans (by simp only [Bool.and_false, Bool.false_and, Bool.true_and, Bool.and_true])))
                  clear hokl
                  go_wp2_with (first | (go_at_call 26; refine (HD.out _).mono ?_; rintro e5 w5 ⟨rfl, rfl⟩) | (go_at_call 25; (with_reducible refine (HB.out _ (HC2.out.keeps (((Keeps.refl w).alloc _).trans K3.out))).mono ?_); rintro e4 w4 ⟨rfl, hk4⟩; have z0 := hk4.cell y0; have z2 := hk4.cell y2; have za := hk4.cell ya; have hz4 := World.block_lt_of_cell? _ _ z0; have hz5 := World.block_lt_of_cell? _ _ za; have K4 := Lib.hid (K3.out.trans hk4); clear hk4 y0 y2 ya x0 x1 x2) | (go_at_call 25; (with_reducible refine (HA.out _ (HC.out.keeps (((Keeps.refl w).alloc _).trans (HW.out.alloc _)))).mono ?_); rintro e3 w3 ⟨rfl, hk3⟩; have x0 := hk3.cell (p := ⟨wr.heap.size, 0, none⟩) (v := .int .i64 en.links[k].frm) (by go_simp); have x1 := hk3.cell (p := ⟨wr.heap.size, 1, none⟩) (v := .int .i64 en.links[k].to) (by go_simp); have x2 := hk3.cell (p := ⟨wr.heap.size, 2, none⟩) (v := .int .i64 en.links[k].since) (by go_simp); have hz3 := World.block_lt_of_cell? _ _ x0; have y0 : (w3.alloc (.cells #[.int .i64 a.code, .int .i64 a.kind, .int .i64 a.basis, .int .i64 a.parent] 50)).cell? ⟨wr.heap.size, 0, none⟩ = some (.int .i64 en.links[k].frm) := (by go_simp); have y2 : (w3.alloc (.cells #[.int .i64 a.code, .int .i64 a.kind, .int .i64 a.basis, .int .i64 a.parent] 50)).cell? ⟨wr.heap.size, 2, none⟩ = some (.int .i64 en.links[k].since) := (by go_simp); have ya : (w3.alloc (.cells #[.int .i64 a.code, .int .i64 a.kind, .int .i64 a.basis, .int .i64 a.parent] 50)).cell? ⟨w3.heap.size, 1, none⟩ = some (.int .i64 a.kind) := (by go_simp); have K3 := Lib.hid (((HW.out.alloc (.cells #[.int .i64 en.links[k].frm, .int .i64 en.links[k].to, .int .i64 en.links[k].since] 39)).trans hk3).alloc (.cells #[.int .i64 a.code, .int .i64 a.kind, .int .i64 a.basis, .int .i64 a.parent] 50)); clear hk3))
                  go_ret
                  rw [HQ.out]
                  exact ⟨rfl, ((Keeps.refl w).alloc _).trans (K4.out.alloc _)⟩
                | true =>
                  simp only [Bool.and_true, Bool.and_false] at hokl
                  have HOK := Lib.hid hokl
                  clear hokl hkd
                  go_wp2_with (first | (go_at_call 26; refine (HD.out _).mono ?_; rintro e5 w5 ⟨rfl, rfl⟩) | (go_at_call 25; (with_reducible refine (HB.out _ (HC2.out.keeps (((Keeps.refl w).alloc _).trans K3.out))).mono ?_); rintro e4 w4 ⟨rfl, hk4⟩; have z0 := hk4.cell y0; have z2 := hk4.cell y2; have za := hk4.cell ya; have hz4 := World.block_lt_of_cell? _ _ z0; have hz5 := World.block_lt_of_cell? _ _ za; have K4 := Lib.hid (K3.out.trans hk4); clear hk4 y0 y2 ya x0 x1 x2) | (go_at_call 25; (with_reducible refine (HA.out _ (HC.out.keeps (((Keeps.refl w).alloc _).trans (HW.out.alloc _)))).mono ?_); rintro e3 w3 ⟨rfl, hk3⟩; have x0 := hk3.cell (p := ⟨wr.heap.size, 0, none⟩) (v := .int .i64 en.links[k].frm) (by go_simp); have x1 := hk3.cell (p := ⟨wr.heap.size, 1, none⟩) (v := .int .i64 en.links[k].to) (by go_simp); have x2 := hk3.cell (p := ⟨wr.heap.size, 2, none⟩) (v := .int .i64 en.links[k].since) (by go_simp); have hz3 := World.block_lt_of_cell? _ _ x0; have y0 : (w3.alloc (.cells #[.int .i64 a.code, .int .i64 a.kind, .int .i64 a.basis, .int .i64 a.parent] 50)).cell? ⟨wr.heap.size, 0, none⟩ = some (.int .i64 en.links[k].frm) := (by go_simp); have y2 : (w3.alloc (.cells #[.int .i64 a.code, .int .i64 a.kind, .int .i64 a.basis, .int .i64 a.parent] 50)).cell? ⟨wr.heap.size, 2, none⟩ = some (.int .i64 en.links[k].since) := (by go_simp); have ya : (w3.alloc (.cells #[.int .i64 a.code, .int .i64 a.kind, .int .i64 a.basis, .int .i64 a.parent] 50)).cell? ⟨w3.heap.size, 1, none⟩ = some (.int .i64 a.kind) := (by go_simp); have K3 := Lib.hid (((HW.out.alloc (.cells #[.int .i64 en.links[k].frm, .int .i64 en.links[k].to, .int .i64 en.links[k].since] 39)).trans hk3).alloc (.cells #[.int .i64 a.code, .int .i64 a.kind, .int .i64 a.basis, .int .i64 a.parent] 50)); clear hk3))
                  clear hkd2
                  have r0 : (w4.alloc (.cells #[.int .i64 d.code, .int .i64 d.kind, .int .i64 d.basis, .int .i64 d.parent] 50)).cell? ⟨wr.heap.size, 0, none⟩ = some (.int .i64 en.links[k].frm) := (by go_simp)
                  have r2 : (w4.alloc (.cells #[.int .i64 d.code, .int .i64 d.kind, .int .i64 d.basis, .int .i64 d.parent] 50)).cell? ⟨wr.heap.size, 2, none⟩ = some (.int .i64 en.links[k].since) := (by go_simp)
                  have K5 := Lib.hid (K4.out.alloc (.cells #[.int .i64 d.code, .int .i64 d.kind, .int .i64 d.basis, .int .i64 d.parent] 50))
                  obtain ⟨wx, hwx⟩ : ∃ wx, w4.alloc (.cells #[.int .i64 d.code, .int .i64 d.kind, .int .i64 d.basis, .int .i64 d.parent] 50) = wx := ⟨_, rfl⟩
                  rw [hwx] at r0 r2 K5 ⊢
                  clear hwx z0 z2 za K4
                  go_loopw [11] (fun vi wy => ∃ j : Nat, j ≤ k ∧ vi = .int .i64 j ∧ Hid (∀ i (hi : i < en.links.length), i < j → sameK en.links[i] en.links[k] = false) ∧ Hid (Keeps wx wy)) (fun vi _ => k - (intOf vi).toNat)
                  case atStart => exact ⟨0, Nat.zero_le _, rfl, Lib.hid (fun i _ h => absurd h (Nat.not_lt_zero _)), Lib.hid (Keeps.refl wx)⟩
                  case round =>
                    obtain ⟨j, hj, rfl, HNI, HY⟩ := hrel
                    by_cases hjk : j < k
                    · have HLy := HL.out.keeps (((Keeps.refl w).alloc _).trans (K5.out.trans HY.out))
                      have hiy := Sl.at HLy Try.underlying23 Try.sizeOf39 j (by omega)
                      have m0 := HLy.cell Lnk.len j (by omega) 0 _ rfl
                      have m2 := HLy.cell Lnk.len j (by omega) 2 _ rfl
                      simp only [Nat.add_zero] at m0
                      have s0 := HY.out.cell r0
                      have s2 := HY.out.cell r2
                      have s3 := (K5.out.trans HY.out).cell (p := ⟨w.heap.size, 3, none⟩) (v := .slice aoL en.links.length capL) (by go_simp)
                      have hsm : sameK (en.links[j]'(by omega)) en.links[k] = ((en.links[j]'(by omega)).frm == en.links[k].frm && (en.links[j]'(by omega)).since == en.links[k].since) := rfl
                      clear HLy r0 r2 d_2 d_3 l0 l1 l2 hix
                      cases f1 : ((en.links[j]'(by omega)).frm == en.links[k].frm) with
                      | false =>
                        rw [f1, Bool.false_and] at hsm
                        have HSM := Lib.hid hsm
                        clear hsm
                        go_wp2_with fail
                        go_quiet (fail)
                        go_wp2_with fail
                        go_roundw
                        case rel => exact ⟨j + 1, by omega, by go_num, Lib.hid (fun i hi hij => by
                          rcases Nat.lt_succ_iff_lt_or_eq.1 hij with h | rfl
                          · exact HNI.out i hi h
                          · exact HSM.out), Lib.hid (HY.out.drewN _)⟩
                        case measure => simp [intOf]; omega
                      | true =>
                        rw [f1, Bool.true_and] at hsm
                        cases f2 : ((en.links[j]'(by omega)).since == en.links[k].since) with
                        | false =>
                          rw [f2] at hsm
                          have HSM := Lib.hid hsm
                          clear hsm
                          go_wp2_with fail
                          go_quiet (fail)
                          go_wp2_with fail
                          go_roundw
                          case rel => exact ⟨j + 1, by omega, by go_num, Lib.hid (fun i hi hij => by
                            rcases Nat.lt_succ_iff_lt_or_eq.1 hij with h | rfl
                            · exact HNI.out i hi h
                            · exact HSM.out), Lib.hid (HY.out.drewN _)⟩
                          case measure => simp [intOf]; omega
                        | true =>
                          rw [f2] at hsm
                          have HQ := Lib.hid (mvalidB_bad hlt (HOK.out.trans (by rw [any_take_yes hlt hjk hsm]; rfl)))
                          clear hsm
                          go_wp2_with fail
                          go_quiet (fail)
                          go_wp2
                          go_ret
                          rw [HQ.out]
                          exact ⟨rfl, ((Keeps.refl w).alloc _).trans (K5.out.trans (HY.out.drewN _))⟩
                    · obtain rfl : j = k := by omega
                      have HOK2 := Lib.hid (HOK.out.trans (by rw [any_take_no hlt HNI.out]))
                      go_wp2_with fail
                      go_roundw
                      case rel => exact ⟨j + 1, by omega, by go_num, Lib.hid (fun i hi => by
                        rcases Nat.lt_succ_iff_lt_or_eq.1 hi with h | rfl
                        · exact HN.out i h
                        · exact HOK2.out), Lib.hid (K5.out.trans HY.out)⟩
                      case measure => simp [intOf]; omega
        · obtain rfl : k = en.links.length := by omega
          have HQ := Lib.hid (mvalidB_good H1.out H2.out hl HN.out)
          go_wp2_with fail
          go_ret
          rw [HQ.out]
          exact ⟨rfl, ((Keeps.refl w).alloc _).trans HW.out⟩
end Go.Proofs.Ytppjjmjdiccloab
