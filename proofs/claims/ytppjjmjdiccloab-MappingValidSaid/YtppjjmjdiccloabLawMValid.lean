/- MappingValid: the walk. -/
import Derived.Test.YtppjjmjdiccloabLawAt
import Derived.Test.YtppjjmjdiccloabMValidW
import Derived.Test.YtppjjmjdiccloabRMValidW
namespace Go.Proofs.Ytppjjmjdiccloab
open Go.RowKit
set_option linter.unusedSimpArgs false
set_option linter.unusedVariables false

set_option maxRecDepth 100000 in
set_option maxHeartbeats 4000000 in
theorem lawMValid_any (en : Ent) (v : Value) (c : List Acc) (ao : Option Addr) (cap b o : Nat) (w : World) (HE : EntV w v en) (OK : en.Ok) (H2 : Accs w ao c cap b o) (OK2 : ∀ a ∈ c, a.Ok) :
    Calls Try.prog 3 #[v, .slice ao c.length cap] w fun e w' => e = .returned (.bool true) ∧ Keeps w w' := by
  have HV := Lib.hid HE
  have HA := Lib.hid H2
  have hcap := Sl.cap H2
  have hle := Sl.le H2
  obtain ⟨fw, hfw⟩ : ∃ fw, fewB en = fw := ⟨_, rfl⟩
  obtain ⟨mv, hmv⟩ : ∃ mv, mvalidB en c = mv := ⟨_, rfl⟩
  have HF : Hid (∀ W, EntV W v en → Calls Try.prog 10 #[v] W fun e w' => e = .returned (.bool fw) ∧ Keeps W w') := Lib.hid (fun W h => by have := few_any en v W h; rw [hfw] at this; exact this)
  have HM0 : c.length ≤ 60 → fw = true → ∀ W, EntV W v en → Accs W ao c cap b o → Calls Try.prog 11 #[v, .slice ao c.length cap] W fun e w' => e = .returned (.bool mv) ∧ Keeps W w' := fun hc hf W h h' => by
    obtain ⟨h1, h2⟩ := fewB_true (hfw.trans hf)
    have := mvalid_any en v c ao cap b o W h h' (by omega) (by omega) (by omega) (fun x hx => ⟨(OK2 x hx).1, (OK2 x hx).2.2.2⟩) (fun x hx => ⟨(OK.chart x hx).1, (OK.chart x hx).2.2.2⟩) OK.links
    rw [hmv] at this; exact this
  have HN0 : c.length ≤ 60 → fw = true → ∀ W, EntV W v en → Accs W ao c cap b o → Calls Try.prog 12 #[v, .slice ao c.length cap] W fun e w' => e = .returned (.bool mv) ∧ Keeps W w' := fun hc hf W h h' => by
    obtain ⟨h1, h2⟩ := fewB_true (hfw.trans hf)
    have := rmvalid_any en v c ao cap b o W h h' (by omega) (by omega) (by omega)
    rw [hmv] at this; exact this
  obtain ⟨cv, lv, rfl, ⟨aoC, capC, bC, oC, rfl, HC⟩, ⟨aoL, capL, bL, oL, rfl, HL⟩⟩ := HE
  clear HC HL OK OK2 hfw hmv H2
  by_cases hc : c.length ≤ 60
  · have HM := Lib.hid (HM0 hc)
    have HN := Lib.hid (HN0 hc)
    have hc2 : decide ((60 : Int) < (c.length : Int)) = false := decide_eq_false (by omega)
    clear HM0 HN0
    go_enter Try.func3, Try.ntmps3
    go_wp2_with (go_at_call 9; refine (awake_any _).mono ?_; rintro e w1 ⟨rfl, hk1⟩; have HK1 := Lib.hid ((((Keeps.refl w).alloc (.cells #[.string en.name, .string en.cur, .slice aoC en.chart.length capC, .slice aoL en.links.length capL, .bool en.joint] 25)).trans hk1).drew); have HS : Hid (∀ w', Keeps w1.drew w' → w'.cell? ⟨w.heap.size, 0, none⟩ = some (.string en.name) ∧ w'.cell? ⟨w.heap.size, 1, none⟩ = some (.string en.cur) ∧ w'.cell? ⟨w.heap.size, 2, none⟩ = some (.slice aoC en.chart.length capC) ∧ w'.cell? ⟨w.heap.size, 3, none⟩ = some (.slice aoL en.links.length capL) ∧ w'.cell? ⟨w.heap.size, 4, none⟩ = some (.bool en.joint)) := Lib.hid (fun w' h => have h := hk1.drew.trans h; ⟨h.cell (p := ⟨w.heap.size, 0, none⟩) (by go_simp), h.cell (p := ⟨w.heap.size, 1, none⟩) (by go_simp), h.cell (p := ⟨w.heap.size, 2, none⟩) (by go_simp), h.cell (p := ⟨w.heap.size, 3, none⟩) (by go_simp), h.cell (p := ⟨w.heap.size, 4, none⟩) (by go_simp)⟩); clear hk1)
    refine wp_region_steps (A := ?_) Keeps [some 7, some 8, some 9, some 10, some 11, some 12, some 13, some 14, some 15, some 16, some 17, some 18, some 19, some 20, some 21, some 22, some 23, some 4] [[], [0], [1], [2], [3], [3, 4], [3, 5], [3, 6], [7], [8], [8], [8, 9, 10], [8], [8], [8, 12, 13], [8, 11, 14], [8, 15], [16]] 18 (by kernel_rfl) (by kernel_rfl) (by kernel_rfl) (by kernel_rfl) (by kernel_rfl) (by kernel_rfl) Keeps.refl (fun _ _ _ => Keeps.trans) ?_ ?_
    rotate_left
    · intro f; simp only [putL, Act.put, List.setIfInBounds_toArray, List.set_cons_zero, List.set_cons_succ, Nat.zero_add, Nat.reduceAdd]; exact rfl
    refine Steps.pure (v := ?_) Keeps.refl rfl (fun f w' hR hV => ⟨?_, ?_⟩) ?_
    rotate_left
    · (rfl)
    · (clear hV; obtain ⟨b0, b1, b2, b3, b4⟩ := HS.out _ hR; go_simp; all_goals (try with_reducible rfl))
    refine Steps.call (fun _ v => v = .bool fw) rfl (fun _ _ _ _ h => h) (fun f w' hR hV => ⟨?_, ?_⟩) ?_
    · (rfl)
    · (obtain ⟨h0, _⟩ := hV; replace h0 : f 0 = _ := h0; obtain ⟨b0, b1, b2, b3, b4⟩ := HS.out _ hR; go_simp; go_at_call 10; refine (HF.out _ (HV.out.keeps (HK1.out.trans hR))).mono ?_; rintro e w2 ⟨rfl, hk2⟩; exact StepPost.of _ rfl rfl hk2)
    refine Steps.pure (v := ?_) Keeps.refl rfl (fun f w' hR hV => ⟨?_, ?_⟩) ?_
    rotate_left
    · (rfl)
    · (obtain ⟨h1, _⟩ := hV; replace h1 : f 1 = _ := h1; obtain ⟨b0, b1, b2, b3, b4⟩ := HS.out _ hR; go_simp; all_goals (try with_reducible rfl))
    refine Steps.pure (v := ?_) Keeps.refl rfl (fun f w' hR hV => ⟨?_, ?_⟩) ?_
    rotate_left
    · (rfl)
    · (obtain ⟨h2, _⟩ := hV; replace h2 : f 2 = _ := h2; obtain ⟨b0, b1, b2, b3, b4⟩ := HS.out _ hR; go_simp; all_goals (try with_reducible rfl))
    cases fw
    all_goals first
      | (refine Steps.pure (v := ?_) Keeps.refl rfl (fun f w' hR hV => ⟨?_, ?_⟩) ?_
         rotate_left
         · (obtain ⟨h3, _⟩ := hV; replace h3 : f 3 = _ := h3; exact want_yes (t := 10) rfl (by kernel_rfl) rfl h3)
         · (obtain ⟨h3, _⟩ := hV; replace h3 : f 3 = _ := h3; obtain ⟨b0, b1, b2, b3, b4⟩ := HS.out _ hR; go_simp; all_goals (try with_reducible rfl)))
      | (refine Steps.skip rfl (fun f w' hR hV => ?_) ?_
         · (obtain ⟨h3, _⟩ := hV; replace h3 : f 3 = _ := h3; first | exact want_no (t := 10) rfl (by kernel_rfl) rfl h3 rfl | exact want_undef (t := 10) rfl (by kernel_rfl) rfl h3))
    all_goals first
      | (refine Steps.pure (v := ?_) Keeps.refl rfl (fun f w' hR hV => ⟨?_, ?_⟩) ?_
         rotate_left
         · (obtain ⟨h3, _, _⟩ := hV; replace h3 : f 3 = _ := h3; exact want_yes (t := 10) rfl (by kernel_rfl) rfl h3)
         · (obtain ⟨h3, h4, _⟩ := hV; replace h3 : f 3 = _ := h3; replace h4 : f 4 = _ := h4; obtain ⟨b0, b1, b2, b3, b4⟩ := HS.out _ hR; go_simp; all_goals (try with_reducible rfl)))
      | (refine Steps.skip rfl (fun f w' hR hV => ?_) ?_
         · (obtain ⟨h3, _, _⟩ := hV; replace h3 : f 3 = _ := h3; first | exact want_no (t := 10) rfl (by kernel_rfl) rfl h3 rfl | exact want_undef (t := 10) rfl (by kernel_rfl) rfl h3))
    all_goals first
      | (refine Steps.pure (v := ?_) Keeps.refl rfl (fun f w' hR hV => ⟨?_, ?_⟩) ?_
         rotate_left
         · (obtain ⟨h3, _, _⟩ := hV; replace h3 : f 3 = _ := h3; exact want_yes (t := 10) rfl (by kernel_rfl) rfl h3)
         · (obtain ⟨h3, h5, _⟩ := hV; replace h3 : f 3 = _ := h3; replace h5 : f 5 = _ := h5; obtain ⟨b0, b1, b2, b3, b4⟩ := HS.out _ hR; go_simp; all_goals (try with_reducible rfl)))
      | (refine Steps.skip rfl (fun f w' hR hV => ?_) ?_
         · (obtain ⟨h3, _, _⟩ := hV; replace h3 : f 3 = _ := h3; first | exact want_no (t := 10) rfl (by kernel_rfl) rfl h3 rfl | exact want_undef (t := 10) rfl (by kernel_rfl) rfl h3))
    all_goals (
      refine Steps.pure (v := ?_) Keeps.refl rfl (fun f w' hR hV => ⟨?_, ?_⟩) ?_
      rotate_left
      · (rfl)
      · (obtain ⟨h3, h6, _⟩ := hV; replace h3 : f 3 = _ := h3; replace h6 : f 6 = _ := h6; obtain ⟨b0, b1, b2, b3, b4⟩ := HS.out _ hR; go_simp; all_goals (try with_reducible rfl)))
    all_goals (
      refine Steps.pure (v := ?_) Keeps.refl rfl (fun f w' hR hV => ⟨?_, ?_⟩) ?_
      rotate_left
      · (rfl)
      · (obtain ⟨h7, _⟩ := hV; replace h7 : f 7 = _ := h7; obtain ⟨b0, b1, b2, b3, b4⟩ := HS.out _ hR; go_simp; all_goals (try with_reducible rfl)))
    all_goals first
      | (refine Steps.pure (v := ?_) Keeps.refl rfl (fun f w' hR hV => ⟨?_, ?_⟩) ?_
         rotate_left
         · (obtain ⟨h8, _⟩ := hV; replace h8 : f 8 = _ := h8; exact want_yes (t := 15) rfl (by kernel_rfl) rfl h8)
         · (obtain ⟨h8, _⟩ := hV; replace h8 : f 8 = _ := h8; obtain ⟨b0, b1, b2, b3, b4⟩ := HS.out _ hR; go_simp; all_goals (try with_reducible rfl)))
      | (refine Steps.skip rfl (fun f w' hR hV => ?_) ?_
         · (obtain ⟨h8, _⟩ := hV; replace h8 : f 8 = _ := h8; first | exact want_no (t := 15) rfl (by kernel_rfl) rfl h8 rfl | exact want_undef (t := 15) rfl (by kernel_rfl) rfl h8))
    all_goals first
      | (refine Steps.pure (v := ?_) Keeps.refl rfl (fun f w' hR hV => ⟨?_, ?_⟩) ?_
         rotate_left
         · (obtain ⟨h8, _⟩ := hV; replace h8 : f 8 = _ := h8; exact want_yes (t := 15) rfl (by kernel_rfl) rfl h8)
         · (obtain ⟨h8, _⟩ := hV; replace h8 : f 8 = _ := h8; obtain ⟨b0, b1, b2, b3, b4⟩ := HS.out _ hR; go_simp; all_goals (try with_reducible rfl)))
      | (refine Steps.skip rfl (fun f w' hR hV => ?_) ?_
         · (obtain ⟨h8, _⟩ := hV; replace h8 : f 8 = _ := h8; first | exact want_no (t := 15) rfl (by kernel_rfl) rfl h8 rfl | exact want_undef (t := 15) rfl (by kernel_rfl) rfl h8))
    all_goals first
      | (refine Steps.call (fun _ v => v = .bool mv) rfl (fun _ _ _ _ h => h) (fun f w' hR hV => ⟨?_, ?_⟩) ?_
         · (obtain ⟨h8, _, _, _⟩ := hV; replace h8 : f 8 = _ := h8; exact want_yes (t := 15) rfl (by kernel_rfl) rfl h8)
         · (obtain ⟨h8, h9, h10, _⟩ := hV; replace h8 : f 8 = _ := h8; replace h9 : f 9 = _ := h9; replace h10 : f 10 = _ := h10; obtain ⟨b0, b1, b2, b3, b4⟩ := HS.out _ hR; go_simp; go_at_call 11; refine (HM.out rfl _ (HV.out.keeps (HK1.out.trans hR)) (HA.out.keeps (HK1.out.trans hR))).mono ?_; rintro e w2 ⟨rfl, hk2⟩; exact StepPost.of _ rfl rfl hk2))
      | (refine Steps.skip rfl (fun f w' hR hV => ?_) ?_
         · (obtain ⟨h8, _, _, _⟩ := hV; replace h8 : f 8 = _ := h8; first | exact want_no (t := 15) rfl (by kernel_rfl) rfl h8 rfl | exact want_undef (t := 15) rfl (by kernel_rfl) rfl h8))
    all_goals first
      | (refine Steps.pure (v := ?_) Keeps.refl rfl (fun f w' hR hV => ⟨?_, ?_⟩) ?_
         rotate_left
         · (obtain ⟨h8, _⟩ := hV; replace h8 : f 8 = _ := h8; exact want_yes (t := 15) rfl (by kernel_rfl) rfl h8)
         · (obtain ⟨h8, _⟩ := hV; replace h8 : f 8 = _ := h8; obtain ⟨b0, b1, b2, b3, b4⟩ := HS.out _ hR; go_simp; all_goals (try with_reducible rfl)))
      | (refine Steps.skip rfl (fun f w' hR hV => ?_) ?_
         · (obtain ⟨h8, _⟩ := hV; replace h8 : f 8 = _ := h8; first | exact want_no (t := 15) rfl (by kernel_rfl) rfl h8 rfl | exact want_undef (t := 15) rfl (by kernel_rfl) rfl h8))
    all_goals first
      | (refine Steps.pure (v := ?_) Keeps.refl rfl (fun f w' hR hV => ⟨?_, ?_⟩) ?_
         rotate_left
         · (obtain ⟨h8, _⟩ := hV; replace h8 : f 8 = _ := h8; exact want_yes (t := 15) rfl (by kernel_rfl) rfl h8)
         · (obtain ⟨h8, _⟩ := hV; replace h8 : f 8 = _ := h8; obtain ⟨b0, b1, b2, b3, b4⟩ := HS.out _ hR; go_simp; all_goals (try with_reducible rfl)))
      | (refine Steps.skip rfl (fun f w' hR hV => ?_) ?_
         · (obtain ⟨h8, _⟩ := hV; replace h8 : f 8 = _ := h8; first | exact want_no (t := 15) rfl (by kernel_rfl) rfl h8 rfl | exact want_undef (t := 15) rfl (by kernel_rfl) rfl h8))
    all_goals first
      | (refine Steps.call (fun _ v => v = .bool mv) rfl (fun _ _ _ _ h => h) (fun f w' hR hV => ⟨?_, ?_⟩) ?_
         · (obtain ⟨h8, _, _, _⟩ := hV; replace h8 : f 8 = _ := h8; exact want_yes (t := 15) rfl (by kernel_rfl) rfl h8)
         · (obtain ⟨h8, h12, h13, _⟩ := hV; replace h8 : f 8 = _ := h8; replace h12 : f 12 = _ := h12; replace h13 : f 13 = _ := h13; obtain ⟨b0, b1, b2, b3, b4⟩ := HS.out _ hR; go_simp; go_at_call 12; refine (HN.out rfl _ (HV.out.keeps (HK1.out.trans hR)) (HA.out.keeps (HK1.out.trans hR))).mono ?_; rintro e w2 ⟨rfl, hk2⟩; exact StepPost.of _ rfl rfl hk2))
      | (refine Steps.skip rfl (fun f w' hR hV => ?_) ?_
         · (obtain ⟨h8, _, _, _⟩ := hV; replace h8 : f 8 = _ := h8; first | exact want_no (t := 15) rfl (by kernel_rfl) rfl h8 rfl | exact want_undef (t := 15) rfl (by kernel_rfl) rfl h8))
    all_goals first
      | (refine Steps.pure (v := ?_) Keeps.refl rfl (fun f w' hR hV => ⟨?_, ?_⟩) ?_
         rotate_left
         · (obtain ⟨h8, _, _, _⟩ := hV; replace h8 : f 8 = _ := h8; exact want_yes (t := 15) rfl (by kernel_rfl) rfl h8)
         · (obtain ⟨h8, h11, h14, _⟩ := hV; replace h8 : f 8 = _ := h8; replace h11 : f 11 = _ := h11; replace h14 : f 14 = _ := h14; obtain ⟨b0, b1, b2, b3, b4⟩ := HS.out _ hR; go_simp; all_goals (try with_reducible rfl)))
      | (refine Steps.skip rfl (fun f w' hR hV => ?_) ?_
         · (obtain ⟨h8, _, _, _⟩ := hV; replace h8 : f 8 = _ := h8; first | exact want_no (t := 15) rfl (by kernel_rfl) rfl h8 rfl | exact want_undef (t := 15) rfl (by kernel_rfl) rfl h8))
    all_goals (
      refine Steps.pure (v := ?_) Keeps.refl rfl (fun f w' hR hV => ⟨?_, ?_⟩) ?_
      rotate_left
      · (rfl)
      · (obtain ⟨h8, h15, _⟩ := hV; replace h8 : f 8 = _ := h8; replace h15 : f 15 = _ := h15; obtain ⟨b0, b1, b2, b3, b4⟩ := HS.out _ hR; go_simp; all_goals (try with_reducible rfl)))
    all_goals (
      refine Steps.pure (v := ?_) Keeps.refl rfl (fun f w' hR hV => ⟨?_, ?_⟩) ?_
      rotate_left
      · (rfl)
      · (obtain ⟨h16, _⟩ := hV; replace h16 : f 16 = _ := h16; obtain ⟨b0, b1, b2, b3, b4⟩ := HS.out _ hR; go_simp; all_goals (try with_reducible rfl)))
    all_goals (refine Steps.done [17] (by kernel_rfl) rfl (fun f wq hR hV => ?_); obtain ⟨h17, _⟩ := hV; replace h17 : f 17 = _ := h17; simp only [h17])
    all_goals (have HR := Lib.hid (HK1.out.trans hR); clear hR)
    all_goals (go_wp2; go_ret; exact ⟨rfl, HR.out⟩)
  · have HM : Hid (false = true → ∀ W, EntV W (.agg #[.string en.name, .string en.cur, .slice aoC en.chart.length capC, .slice aoL en.links.length capL, .bool en.joint]) en → Accs W ao c cap b o → Calls Try.prog 11 #[.agg #[.string en.name, .string en.cur, .slice aoC en.chart.length capC, .slice aoL en.links.length capL, .bool en.joint], .slice ao c.length cap] W fun e w' => e = .returned (.bool mv) ∧ Keeps W w') := Lib.hid (fun h => by cases h)
    have HN : Hid (false = true → ∀ W, EntV W (.agg #[.string en.name, .string en.cur, .slice aoC en.chart.length capC, .slice aoL en.links.length capL, .bool en.joint]) en → Accs W ao c cap b o → Calls Try.prog 12 #[.agg #[.string en.name, .string en.cur, .slice aoC en.chart.length capC, .slice aoL en.links.length capL, .bool en.joint], .slice ao c.length cap] W fun e w' => e = .returned (.bool mv) ∧ Keeps W w') := Lib.hid (fun h => by cases h)
    have hc2 : decide ((60 : Int) < (c.length : Int)) = true := decide_eq_true (by omega)
    clear HM0 HN0
    go_enter Try.func3, Try.ntmps3
    go_wp2_with (go_at_call 9; refine (awake_any _).mono ?_; rintro e w1 ⟨rfl, hk1⟩; have HK1 := Lib.hid ((((Keeps.refl w).alloc (.cells #[.string en.name, .string en.cur, .slice aoC en.chart.length capC, .slice aoL en.links.length capL, .bool en.joint] 25)).trans hk1).drew); have HS : Hid (∀ w', Keeps w1.drew w' → w'.cell? ⟨w.heap.size, 0, none⟩ = some (.string en.name) ∧ w'.cell? ⟨w.heap.size, 1, none⟩ = some (.string en.cur) ∧ w'.cell? ⟨w.heap.size, 2, none⟩ = some (.slice aoC en.chart.length capC) ∧ w'.cell? ⟨w.heap.size, 3, none⟩ = some (.slice aoL en.links.length capL) ∧ w'.cell? ⟨w.heap.size, 4, none⟩ = some (.bool en.joint)) := Lib.hid (fun w' h => have h := hk1.drew.trans h; ⟨h.cell (p := ⟨w.heap.size, 0, none⟩) (by go_simp), h.cell (p := ⟨w.heap.size, 1, none⟩) (by go_simp), h.cell (p := ⟨w.heap.size, 2, none⟩) (by go_simp), h.cell (p := ⟨w.heap.size, 3, none⟩) (by go_simp), h.cell (p := ⟨w.heap.size, 4, none⟩) (by go_simp)⟩); clear hk1)
    refine wp_region_steps (A := ?_) Keeps [some 7, some 8, some 9, some 10, some 11, some 12, some 13, some 14, some 15, some 16, some 17, some 18, some 19, some 20, some 21, some 22, some 23, some 4] [[], [0], [1], [2], [3], [3, 4], [3, 5], [3, 6], [7], [8], [8], [8, 9, 10], [8], [8], [8, 12, 13], [8, 11, 14], [8, 15], [16]] 18 (by kernel_rfl) (by kernel_rfl) (by kernel_rfl) (by kernel_rfl) (by kernel_rfl) (by kernel_rfl) Keeps.refl (fun _ _ _ => Keeps.trans) ?_ ?_
    rotate_left
    · intro f; simp only [putL, Act.put, List.setIfInBounds_toArray, List.set_cons_zero, List.set_cons_succ, Nat.zero_add, Nat.reduceAdd]; exact rfl
    refine Steps.pure (v := ?_) Keeps.refl rfl (fun f w' hR hV => ⟨?_, ?_⟩) ?_
    rotate_left
    · (rfl)
    · (clear hV; obtain ⟨b0, b1, b2, b3, b4⟩ := HS.out _ hR; go_simp; all_goals (try with_reducible rfl))
    refine Steps.call (fun _ v => v = .bool fw) rfl (fun _ _ _ _ h => h) (fun f w' hR hV => ⟨?_, ?_⟩) ?_
    · (rfl)
    · (obtain ⟨h0, _⟩ := hV; replace h0 : f 0 = _ := h0; obtain ⟨b0, b1, b2, b3, b4⟩ := HS.out _ hR; go_simp; go_at_call 10; refine (HF.out _ (HV.out.keeps (HK1.out.trans hR))).mono ?_; rintro e w2 ⟨rfl, hk2⟩; exact StepPost.of _ rfl rfl hk2)
    refine Steps.pure (v := ?_) Keeps.refl rfl (fun f w' hR hV => ⟨?_, ?_⟩) ?_
    rotate_left
    · (rfl)
    · (obtain ⟨h1, _⟩ := hV; replace h1 : f 1 = _ := h1; obtain ⟨b0, b1, b2, b3, b4⟩ := HS.out _ hR; go_simp; all_goals (try with_reducible rfl))
    refine Steps.pure (v := ?_) Keeps.refl rfl (fun f w' hR hV => ⟨?_, ?_⟩) ?_
    rotate_left
    · (rfl)
    · (obtain ⟨h2, _⟩ := hV; replace h2 : f 2 = _ := h2; obtain ⟨b0, b1, b2, b3, b4⟩ := HS.out _ hR; go_simp; all_goals (try with_reducible rfl))
    cases fw
    all_goals first
      | (refine Steps.pure (v := ?_) Keeps.refl rfl (fun f w' hR hV => ⟨?_, ?_⟩) ?_
         rotate_left
         · (obtain ⟨h3, _⟩ := hV; replace h3 : f 3 = _ := h3; exact want_yes (t := 10) rfl (by kernel_rfl) rfl h3)
         · (obtain ⟨h3, _⟩ := hV; replace h3 : f 3 = _ := h3; obtain ⟨b0, b1, b2, b3, b4⟩ := HS.out _ hR; go_simp; all_goals (try with_reducible rfl)))
      | (refine Steps.skip rfl (fun f w' hR hV => ?_) ?_
         · (obtain ⟨h3, _⟩ := hV; replace h3 : f 3 = _ := h3; first | exact want_no (t := 10) rfl (by kernel_rfl) rfl h3 rfl | exact want_undef (t := 10) rfl (by kernel_rfl) rfl h3))
    all_goals first
      | (refine Steps.pure (v := ?_) Keeps.refl rfl (fun f w' hR hV => ⟨?_, ?_⟩) ?_
         rotate_left
         · (obtain ⟨h3, _, _⟩ := hV; replace h3 : f 3 = _ := h3; exact want_yes (t := 10) rfl (by kernel_rfl) rfl h3)
         · (obtain ⟨h3, h4, _⟩ := hV; replace h3 : f 3 = _ := h3; replace h4 : f 4 = _ := h4; obtain ⟨b0, b1, b2, b3, b4⟩ := HS.out _ hR; go_simp; all_goals (try with_reducible rfl)))
      | (refine Steps.skip rfl (fun f w' hR hV => ?_) ?_
         · (obtain ⟨h3, _, _⟩ := hV; replace h3 : f 3 = _ := h3; first | exact want_no (t := 10) rfl (by kernel_rfl) rfl h3 rfl | exact want_undef (t := 10) rfl (by kernel_rfl) rfl h3))
    all_goals first
      | (refine Steps.pure (v := ?_) Keeps.refl rfl (fun f w' hR hV => ⟨?_, ?_⟩) ?_
         rotate_left
         · (obtain ⟨h3, _, _⟩ := hV; replace h3 : f 3 = _ := h3; exact want_yes (t := 10) rfl (by kernel_rfl) rfl h3)
         · (obtain ⟨h3, h5, _⟩ := hV; replace h3 : f 3 = _ := h3; replace h5 : f 5 = _ := h5; obtain ⟨b0, b1, b2, b3, b4⟩ := HS.out _ hR; go_simp; all_goals (try with_reducible rfl)))
      | (refine Steps.skip rfl (fun f w' hR hV => ?_) ?_
         · (obtain ⟨h3, _, _⟩ := hV; replace h3 : f 3 = _ := h3; first | exact want_no (t := 10) rfl (by kernel_rfl) rfl h3 rfl | exact want_undef (t := 10) rfl (by kernel_rfl) rfl h3))
    all_goals (
      refine Steps.pure (v := ?_) Keeps.refl rfl (fun f w' hR hV => ⟨?_, ?_⟩) ?_
      rotate_left
      · (rfl)
      · (obtain ⟨h3, h6, _⟩ := hV; replace h3 : f 3 = _ := h3; replace h6 : f 6 = _ := h6; obtain ⟨b0, b1, b2, b3, b4⟩ := HS.out _ hR; go_simp; all_goals (try with_reducible rfl)))
    all_goals (
      refine Steps.pure (v := ?_) Keeps.refl rfl (fun f w' hR hV => ⟨?_, ?_⟩) ?_
      rotate_left
      · (rfl)
      · (obtain ⟨h7, _⟩ := hV; replace h7 : f 7 = _ := h7; obtain ⟨b0, b1, b2, b3, b4⟩ := HS.out _ hR; go_simp; all_goals (try with_reducible rfl)))
    all_goals first
      | (refine Steps.pure (v := ?_) Keeps.refl rfl (fun f w' hR hV => ⟨?_, ?_⟩) ?_
         rotate_left
         · (obtain ⟨h8, _⟩ := hV; replace h8 : f 8 = _ := h8; exact want_yes (t := 15) rfl (by kernel_rfl) rfl h8)
         · (obtain ⟨h8, _⟩ := hV; replace h8 : f 8 = _ := h8; obtain ⟨b0, b1, b2, b3, b4⟩ := HS.out _ hR; go_simp; all_goals (try with_reducible rfl)))
      | (refine Steps.skip rfl (fun f w' hR hV => ?_) ?_
         · (obtain ⟨h8, _⟩ := hV; replace h8 : f 8 = _ := h8; first | exact want_no (t := 15) rfl (by kernel_rfl) rfl h8 rfl | exact want_undef (t := 15) rfl (by kernel_rfl) rfl h8))
    all_goals first
      | (refine Steps.pure (v := ?_) Keeps.refl rfl (fun f w' hR hV => ⟨?_, ?_⟩) ?_
         rotate_left
         · (obtain ⟨h8, _⟩ := hV; replace h8 : f 8 = _ := h8; exact want_yes (t := 15) rfl (by kernel_rfl) rfl h8)
         · (obtain ⟨h8, _⟩ := hV; replace h8 : f 8 = _ := h8; obtain ⟨b0, b1, b2, b3, b4⟩ := HS.out _ hR; go_simp; all_goals (try with_reducible rfl)))
      | (refine Steps.skip rfl (fun f w' hR hV => ?_) ?_
         · (obtain ⟨h8, _⟩ := hV; replace h8 : f 8 = _ := h8; first | exact want_no (t := 15) rfl (by kernel_rfl) rfl h8 rfl | exact want_undef (t := 15) rfl (by kernel_rfl) rfl h8))
    all_goals first
      | (refine Steps.call (fun _ v => v = .bool mv) rfl (fun _ _ _ _ h => h) (fun f w' hR hV => ⟨?_, ?_⟩) ?_
         · (obtain ⟨h8, _, _, _⟩ := hV; replace h8 : f 8 = _ := h8; exact want_yes (t := 15) rfl (by kernel_rfl) rfl h8)
         · (obtain ⟨h8, h9, h10, _⟩ := hV; replace h8 : f 8 = _ := h8; replace h9 : f 9 = _ := h9; replace h10 : f 10 = _ := h10; obtain ⟨b0, b1, b2, b3, b4⟩ := HS.out _ hR; go_simp; go_at_call 11; refine (HM.out rfl _ (HV.out.keeps (HK1.out.trans hR)) (HA.out.keeps (HK1.out.trans hR))).mono ?_; rintro e w2 ⟨rfl, hk2⟩; exact StepPost.of _ rfl rfl hk2))
      | (refine Steps.skip rfl (fun f w' hR hV => ?_) ?_
         · (obtain ⟨h8, _, _, _⟩ := hV; replace h8 : f 8 = _ := h8; first | exact want_no (t := 15) rfl (by kernel_rfl) rfl h8 rfl | exact want_undef (t := 15) rfl (by kernel_rfl) rfl h8))
    all_goals first
      | (refine Steps.pure (v := ?_) Keeps.refl rfl (fun f w' hR hV => ⟨?_, ?_⟩) ?_
         rotate_left
         · (obtain ⟨h8, _⟩ := hV; replace h8 : f 8 = _ := h8; exact want_yes (t := 15) rfl (by kernel_rfl) rfl h8)
         · (obtain ⟨h8, _⟩ := hV; replace h8 : f 8 = _ := h8; obtain ⟨b0, b1, b2, b3, b4⟩ := HS.out _ hR; go_simp; all_goals (try with_reducible rfl)))
      | (refine Steps.skip rfl (fun f w' hR hV => ?_) ?_
         · (obtain ⟨h8, _⟩ := hV; replace h8 : f 8 = _ := h8; first | exact want_no (t := 15) rfl (by kernel_rfl) rfl h8 rfl | exact want_undef (t := 15) rfl (by kernel_rfl) rfl h8))
    all_goals first
      | (refine Steps.pure (v := ?_) Keeps.refl rfl (fun f w' hR hV => ⟨?_, ?_⟩) ?_
         rotate_left
         · (obtain ⟨h8, _⟩ := hV; replace h8 : f 8 = _ := h8; exact want_yes (t := 15) rfl (by kernel_rfl) rfl h8)
         · (obtain ⟨h8, _⟩ := hV; replace h8 : f 8 = _ := h8; obtain ⟨b0, b1, b2, b3, b4⟩ := HS.out _ hR; go_simp; all_goals (try with_reducible rfl)))
      | (refine Steps.skip rfl (fun f w' hR hV => ?_) ?_
         · (obtain ⟨h8, _⟩ := hV; replace h8 : f 8 = _ := h8; first | exact want_no (t := 15) rfl (by kernel_rfl) rfl h8 rfl | exact want_undef (t := 15) rfl (by kernel_rfl) rfl h8))
    all_goals first
      | (refine Steps.call (fun _ v => v = .bool mv) rfl (fun _ _ _ _ h => h) (fun f w' hR hV => ⟨?_, ?_⟩) ?_
         · (obtain ⟨h8, _, _, _⟩ := hV; replace h8 : f 8 = _ := h8; exact want_yes (t := 15) rfl (by kernel_rfl) rfl h8)
         · (obtain ⟨h8, h12, h13, _⟩ := hV; replace h8 : f 8 = _ := h8; replace h12 : f 12 = _ := h12; replace h13 : f 13 = _ := h13; obtain ⟨b0, b1, b2, b3, b4⟩ := HS.out _ hR; go_simp; go_at_call 12; refine (HN.out rfl _ (HV.out.keeps (HK1.out.trans hR)) (HA.out.keeps (HK1.out.trans hR))).mono ?_; rintro e w2 ⟨rfl, hk2⟩; exact StepPost.of _ rfl rfl hk2))
      | (refine Steps.skip rfl (fun f w' hR hV => ?_) ?_
         · (obtain ⟨h8, _, _, _⟩ := hV; replace h8 : f 8 = _ := h8; first | exact want_no (t := 15) rfl (by kernel_rfl) rfl h8 rfl | exact want_undef (t := 15) rfl (by kernel_rfl) rfl h8))
    all_goals first
      | (refine Steps.pure (v := ?_) Keeps.refl rfl (fun f w' hR hV => ⟨?_, ?_⟩) ?_
         rotate_left
         · (obtain ⟨h8, _, _, _⟩ := hV; replace h8 : f 8 = _ := h8; exact want_yes (t := 15) rfl (by kernel_rfl) rfl h8)
         · (obtain ⟨h8, h11, h14, _⟩ := hV; replace h8 : f 8 = _ := h8; replace h11 : f 11 = _ := h11; replace h14 : f 14 = _ := h14; obtain ⟨b0, b1, b2, b3, b4⟩ := HS.out _ hR; go_simp; all_goals (try with_reducible rfl)))
      | (refine Steps.skip rfl (fun f w' hR hV => ?_) ?_
         · (obtain ⟨h8, _, _, _⟩ := hV; replace h8 : f 8 = _ := h8; first | exact want_no (t := 15) rfl (by kernel_rfl) rfl h8 rfl | exact want_undef (t := 15) rfl (by kernel_rfl) rfl h8))
    all_goals (
      refine Steps.pure (v := ?_) Keeps.refl rfl (fun f w' hR hV => ⟨?_, ?_⟩) ?_
      rotate_left
      · (rfl)
      · (obtain ⟨h8, h15, _⟩ := hV; replace h8 : f 8 = _ := h8; replace h15 : f 15 = _ := h15; obtain ⟨b0, b1, b2, b3, b4⟩ := HS.out _ hR; go_simp; all_goals (try with_reducible rfl)))
    all_goals (
      refine Steps.pure (v := ?_) Keeps.refl rfl (fun f w' hR hV => ⟨?_, ?_⟩) ?_
      rotate_left
      · (rfl)
      · (obtain ⟨h16, _⟩ := hV; replace h16 : f 16 = _ := h16; obtain ⟨b0, b1, b2, b3, b4⟩ := HS.out _ hR; go_simp; all_goals (try with_reducible rfl)))
    all_goals (refine Steps.done [17] (by kernel_rfl) rfl (fun f wq hR hV => ?_); obtain ⟨h17, _⟩ := hV; replace h17 : f 17 = _ := h17; simp only [h17])
    all_goals (have HR := Lib.hid (HK1.out.trans hR); clear hR)
    all_goals (go_wp2; go_ret; exact ⟨rfl, HR.out⟩)
end Go.Proofs.Ytppjjmjdiccloab
