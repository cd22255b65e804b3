/- MappingLater: plain laws and the walk. -/
import Derived.Test.YtppjjmjdiccloabLawAt
namespace Go.Proofs.Ytppjjmjdiccloab
open Go.RowKit
set_option linter.unusedSimpArgs false
set_option linter.unusedVariables false

theorem later_same {chart : List Acc} {links : List Lnk} {code day : Int} {l : Lnk} (h : day < l.since) : atS chart (links ++ [l]) code day = atS chart links code day := by
  have e : cands (links ++ [l]) code day = cands links code day := by
    rw [cands_snoc, if_neg]
    simp only [candB, Bool.and_eq_true, decide_eq_true_eq, not_and]
    intro _
    omega
  unfold atS
  rw [e]
theorem other_same {chart : List Acc} {links : List Lnk} {code day other : Int} (h : ∀ a ∈ links, (a.since ≤ day ↔ a.since ≤ other)) (h1 : dateB day = true) (h2 : dateB other = true) : atS chart links code other = atS chart links code day := by
  have : cands links code other = cands links code day := by
    unfold cands
    apply List.filter_congr
    intro a ha
    have := h a ha
    unfold candB
    have e : decide (a.since ≤ other) = decide (a.since ≤ day) := by
      by_cases h3 : a.since ≤ day
      · rw [decide_eq_true h3, decide_eq_true (this.1 h3)]
      · rw [decide_eq_false h3, decide_eq_false (fun h4 => h3 (this.2 h4))]
    rw [e]
  unfold atS
  rw [this, h1, h2]
theorem atS_range {chart : List Acc} {links : List Lnk} {code day : Int} (h : dateB day = false) : (atS chart links code day).2 = 2 := by rw [atS_day h]

structure CaseB (w : World) (g : Nat) (en : Ent) (aoC : Option Addr) (capC : Nat) (aoL : Option Addr) (capL : Nat) (code day : Int) : Prop where
  c0 : w.cell? ⟨g, 0, none⟩ = some (.string en.name)
  c1 : w.cell? ⟨g, 1, none⟩ = some (.string en.cur)
  c2 : w.cell? ⟨g, 2, none⟩ = some (.slice aoC en.chart.length capC)
  c3 : w.cell? ⟨g, 3, none⟩ = some (.slice aoL en.links.length capL)
  c4 : w.cell? ⟨g, 4, none⟩ = some (.bool en.joint)
  c5 : w.cell? ⟨g, 5, none⟩ = some (.int .i64 code)
  c6 : w.cell? ⟨g, 6, none⟩ = some (.int .i64 day)
theorem CaseB.keeps {w w' : World} {g : Nat} {en : Ent} {aoC : Option Addr} {capC : Nat} {aoL : Option Addr} {capL : Nat} {code day : Int} (h : CaseB w g en aoC capC aoL capL code day) (k : Keeps w w') : CaseB w' g en aoC capC aoL capL code day :=
  ⟨k.cell h.c0, k.cell h.c1, k.cell h.c2, k.cell h.c3, k.cell h.c4, k.cell h.c5, k.cell h.c6⟩

set_option maxRecDepth 100000 in
set_option maxHeartbeats 1000000 in
theorem lawLater_any (en : Ent) (aoC : Option Addr) (capC bC oC : Nat) (aoL : Option Addr) (capL bL oL : Nat) (code day other : Int) (l : Lnk) (w : World) (HC : Accs w aoC en.chart capC bC oC) (HL : Lnks w aoL en.links capL bL oL) (OK : en.Ok) :
    Calls Try.prog 5 #[.agg #[.string en.name, .string en.cur, .slice aoC en.chart.length capC, .slice aoL en.links.length capL, .bool en.joint, .int .i64 code, .int .i64 day], .agg #[.int .i64 l.frm, .int .i64 l.to, .int .i64 l.since], .int .i64 other] w fun e w' => e = .returned (.bool true) ∧ Keeps w w' := by
  have HV : Hid (EntV w (.agg #[.string en.name, .string en.cur, .slice aoC en.chart.length capC, .slice aoL en.links.length capL, .bool en.joint]) en) := Lib.hid ⟨_, _, rfl, ⟨aoC, capC, bC, oC, rfl, HC⟩, ⟨aoL, capL, bL, oL, rfl, HL⟩⟩
  have HO := Lib.hid (fun x hx => (OK.links x hx).2.2)
  have hcapL := Sl.cap HL
  have hleL := Sl.le HL
  have HLL := Lib.hid HL
  clear HC OK HL
  by_cases hfew : fewB en = true ∧ en.links.length ≤ 59
  · obtain ⟨hf, hl59⟩ := hfew
    have HF : Hid (∀ w, EntV w _ en → Calls Try.prog 10 #[.agg #[.string en.name, .string en.cur, .slice aoC en.chart.length capC, .slice aoL en.links.length capL, .bool en.joint]] w fun e w' => e = .returned (.bool true) ∧ Keeps w w') := Lib.hid (fun w h => by have := few_any en _ w h; rw [hf] at this; exact this)
    clear hf
    by_cases hlt : day < l.since
    · go_enter Try.func5, Try.ntmps5
      go_wp2_with (first | (go_at_call 9; refine (awake_any _).mono ?_; rintro e w1 ⟨rfl, hk1⟩; have HK1 := Lib.hid ((((Keeps.refl w).alloc _).alloc _).trans hk1); have B1 : Hid (CaseB w1 w.heap.size en aoC capC aoL capL code day ∧ BoxL w1 (w.heap.size + 1) l) := Lib.hid ⟨CaseB.keeps ⟨by go_simp, by go_simp, by go_simp, by go_simp, by go_simp, by go_simp, by go_simp⟩ hk1, BoxL.keeps ⟨by go_simp, by go_simp, by go_simp, by go_simp, by go_simp, by go_simp⟩ hk1⟩; obtain ⟨⟨c0, c1, c2, c3, c4, c5, c6⟩, ⟨l0, l1, l2, _, _, _⟩⟩ := B1.out; clear hk1) | (go_at_call 10; refine (HF.out _ (HV.out.keeps HK1.out)).mono ?_; rintro e w2 ⟨rfl, hk2⟩; have HK2 := Lib.hid (HK1.out.trans hk2); clear c0 c1 c2 c3 c4 c5 c6 l0 l1 l2; have B2 := Lib.hid (And.intro (B1.out.1.keeps hk2) (B1.out.2.keeps hk2)); obtain ⟨⟨c0, c1, c2, c3, c4, c5, c6⟩, ⟨l0, l1, l2, _, _, _⟩⟩ := B2.out; clear hk2 HK1 B1 HF) | (go_at_call 13; refine (at_any en _ code day _ (HV.out.keeps HK2.out) (by omega)).mono ?_; rintro e w3 ⟨rfl, hk3⟩; have HK3 := Lib.hid (HK2.out.trans hk3); clear c0 c1 c2 c3 c4 c5 c6 l0 l1 l2; have B3 := Lib.hid (And.intro (B2.out.1.keeps hk3) (B2.out.2.keeps hk3)); obtain ⟨⟨c0, c1, c2, c3, c4, c5, c6⟩, ⟨l0, l1, l2, _, _, _⟩⟩ := B3.out; have hbw := World.block_lt_of_cell? _ _ c0; have hbl := World.block_lt_of_cell? _ _ l0; clear hk3 HK2 B2))
      obtain ⟨w4, hw4⟩ : ∃ w4, w4 = w3.alloc (.cells #[.string en.name, .string en.cur, .slice aoC en.chart.length capC, .slice aoL en.links.length capL, .bool en.joint] 25) := ⟨_, rfl⟩
      have hk4 : Keeps w3 w4 := by rw [hw4]; exact (Keeps.refl _).alloc _
      have y0 : w4.cell? ⟨w3.heap.size, 0, none⟩ = some (.string en.name) := by rw [hw4]; go_simp
      have y1 : w4.cell? ⟨w3.heap.size, 1, none⟩ = some (.string en.cur) := by rw [hw4]; go_simp
      have y2 : w4.cell? ⟨w3.heap.size, 2, none⟩ = some (.slice aoC en.chart.length capC) := by rw [hw4]; go_simp
      have y3 : w4.cell? ⟨w3.heap.size, 3, none⟩ = some (.slice aoL en.links.length capL) := by rw [hw4]; go_simp
      have y4 : w4.cell? ⟨w3.heap.size, 4, none⟩ = some (.bool en.joint) := by rw [hw4]; go_simp
      have yf : w4.frozen? ⟨w3.heap.size, 3, none⟩ = false := by rw [hw4]; go_simp
      have hz34 : w3.heap.size < w4.heap.size := World.block_lt_of_cell? _ _ y0
      rw [← hw4]
      clear hw4
      have HY := Lib.hid (And.intro y0 (And.intro y1 (And.intro y2 (And.intro y3 (And.intro y4 yf)))))
      have HK4 := Lib.hid (HK3.out.trans hk4)
      have HL4 := Lib.hid (HLL.out.keeps HK4.out)
      have B4 := Lib.hid (And.intro (B3.out.1.keeps hk4) (B3.out.2.keeps hk4))
      clear c0 c1 c2 c3 c4 c5 c6 l0 l1 l2
      obtain ⟨⟨_, _, _, c3, _, _, _⟩, ⟨l0, l1, l2, _, _, _⟩⟩ := B4.out
      have hbw3 : w.heap.size < w3.heap.size := hbw
      clear hk4 B3 y0 y1 y2 y3 y4 yf
      have HB1 : Hid (∀ u ∈ en.links.flatMap Lnk.cells, u.oneCell' = true) := Lib.hid (fun u hu => by
        obtain ⟨a, _, hu⟩ := List.mem_flatMap.1 hu
        simp [Lnk.cells] at hu
        rcases hu with rfl | rfl | rfl <;> rfl)
      go_region_held3 (fun w' => w'.cell? ⟨w.heap.size, 3, none⟩ = some (.slice aoL en.links.length capL) ∧ w'.cell? ⟨w.heap.size + 1, 0, none⟩ = some (.int .i64 l.frm) ∧ w'.cell? ⟨w.heap.size + 1, 1, none⟩ = some (.int .i64 l.to) ∧ w'.cell? ⟨w.heap.size + 1, 2, none⟩ = some (.int .i64 l.since))
        (first | go_keep | (exact ⟨hk6.cell c3, hk6.cell l0, hk6.cell l1, hk6.cell l2⟩) | (exact ⟨hk5.cell c3, hk5.cell l0, hk5.cell l1, hk5.cell l2⟩) | (refine ⟨?_, ?_, ?_, ?_⟩ <;> go_simp))
        (first | (refine step_all_raw elemLnk (by rfl) (.tmp 46) (.tmp 49) (by rfl) _ 0 [] (by rfl) w4.heap.size (by first | exact own_emptyx (by simp) (by simp) | exact (own_emptyx (by simp) (by simp)).alloc _) (by first | (simp; done) | (simp; omega)) aoL en.links.length capL bL oL (en.links.flatMap Lnk.cells) (by rfl) (by first | exact HL4.out.keeps ((Keeps.refl w4).alloc _).drew | exact HL4.out.keeps (((Keeps.refl w4).alloc _).alloc _).drew) HB1.out (by omega) (by omega) ?_; intro v5 w5 hown5 hgrow5 hat5; rw [Nat.zero_add, List.nil_append] at hown5; have hk5 : Keeps w4 w5 := (by first | exact Below.grown ((Keeps.refl w4).alloc _).drew hgrow5 (by first | (simp; done) | (simp; omega)) (fun j hj => by simp [Act.eval, Value.ownBlock] at hj; omega) | exact Below.grown (((Keeps.refl w4).alloc _).alloc _).drew hgrow5 (by first | (simp; done) | (simp; omega)) (fun j hj => by simp [Act.eval, Value.ownBlock] at hj; omega)); have hz5 := hk5.size) | (refine step_all_raw elemLnk (by rfl) (.tmp 50) (.tmp 52) (by rfl) v5 en.links.length _ (by rfl) w4.heap.size (by first | exact hown5 | exact hown5.alloc _) (by first | omega | (simp; omega)) _ 1 1 _ 0 [.int .i64 l.frm, .int .i64 l.to, .int .i64 l.since] (by rfl) (by first | exact Sl.block rfl (fun j u hj => by rcases j with _ | _ | _ | j <;> simp at hj <;> subst hj <;> first | (exact hgrow5.cell (by go_simp) (by simp [Act.eval, Value.ownBlock])) | go_simp)) (by intro u hu; simp at hu; rcases hu with rfl | rfl | rfl <;> rfl) (by omega) (by omega) ?_; intro v6 w6 hown6 hgrow6 hat6; have hk6 : Keeps w4 w6 := (by first | exact Below.grown hk5 hgrow6 hk5.size (fun j hj => (hown5.lt j hj).1) | exact Below.grown (Keeps.alloc hk5 _) hgrow6 (by simp; omega) (fun j hj => (hown5.lt j hj).1)); have HROW : Hid (w6.ownsRow w4.heap.size 39 3 v6 (en.links ++ [l]).length ((en.links ++ [l]).flatMap Lnk.cells)) := Lib.hid (by rw [List.length_append, List.flatMap_append]; exact hown6); obtain ⟨ao6, cap6, b6, rfl, hs6⟩ := Recs.own HROW.out; have HS6 := Lib.hid hs6; have s3 := hk6.cell c3; have s0 := hk6.cell l0; have s1 := hk6.cell l1; have s2 := hk6.cell l2; have y3 := hk6.cell HY.out.2.2.2.1; have yf := hk6.frz HY.out.2.2.2.1 HY.out.2.2.2.2.2; clear hs6))
      all_goals
        have HS6' := HS6
        clear s0 s1 s2 s3 hown5 hgrow5 hat5 hk5 hz5 hown6 hgrow6 hat6 HL4 HLL HB1 HS6
        have y0 := hk6.cell HY.out.1
        have y1 := hk6.cell HY.out.2.1
        have y2 := hk6.cell HY.out.2.2.1
        have y4 := hk6.cell HY.out.2.2.2.2.1
        have hyb := World.block_lt_of_cell? _ _ y3
        have c5 := hk6.cell B4.out.1.c5
        have c6 := hk6.cell B4.out.1.c6
        obtain ⟨w7, hw7⟩ : ∃ w7, w7 = w6.setCell ⟨w3.heap.size, 3, none⟩ (.slice ao6 (en.links.length + 1) cap6) := ⟨_, rfl⟩
        have hk7 : Keeps w w7 := by rw [hw7]; exact (HK4.out.trans hk6).setCell (by have := HK3.out.size; simp; omega) _
        have BW7 : CaseB w7 w.heap.size en aoC capC aoL capL code day := by
          have h := B4.out.1.keeps hk6
          obtain ⟨q0, q1, q2, q3, q4, q5, q6⟩ := h
          rw [hw7]
          exact ⟨by go_simp, by go_simp, by go_simp, by go_simp, by go_simp, by go_simp, by go_simp⟩
        have HE7 : EntV w7 (.agg #[.string en.name, .string en.cur, .slice aoC en.chart.length capC, .slice ao6 (en.links.length + 1) cap6, .bool en.joint]) { en with links := en.links ++ [l] } := by
          obtain ⟨cv, lv, e1, hc, _⟩ := HV.out.keeps hk7
          simp only [Value.agg.injEq, Array.mk.injEq, List.cons.injEq, and_true, true_and] at e1
          have hrow7 : w7.ownsRow w4.heap.size 39 3 (.slice ao6 (en.links ++ [l]).length cap6) (en.links ++ [l]).length ((en.links ++ [l]).flatMap Lnk.cells) := by
            rw [hw7]
            refine HROW.out.kept (row := some w3.heap.size) ⟨rfl, rfl, rfl, by simp [World.setCell], fun k hk hne => Below.heap_setCell _ _ _ k (fun e => hne (by rw [e]))⟩ ?_
            have hlt2 := HROW.out.lt
            cases hob : Value.ownBlock (.slice ao6 (en.links ++ [l]).length cap6) with
            | none => exact .inl rfl
            | some k =>
              have := (hlt2 k hob).1
              exact .inr (fun e => by simp at e; omega)
          obtain ⟨ao', cap', b', e2, h2⟩ := Recs.own hrow7
          exact ⟨_, _, rfl, e1.1 ▸ hc, ⟨ao', cap', b', 0, by rw [← e2, List.length_append]; rfl, h2⟩⟩
        have HA7 : Hid (Calls Try.prog 13 #[.agg #[.string en.name, .string en.cur, .slice aoC en.chart.length capC, .slice ao6 (en.links.length + 1) cap6, .bool en.joint], .int .i64 code, .int .i64 day] w7 fun e w' => e = .returned (.tuple #[.int .i64 (atS en.chart en.links code day).1, .int .i64 (atS en.chart en.links code day).2]) ∧ Keeps w7 w') := Lib.hid (by
          have := at_any _ _ code day w7 HE7 (by simp; omega)
          change Calls _ _ _ _ (fun e w' => e = .returned (.tuple #[.int .i64 (atS en.chart (en.links ++ [l]) code day).1, .int .i64 (atS en.chart (en.links ++ [l]) code day).2]) ∧ _) at this
          rw [later_same hlt] at this
          exact this)
        have HK7 := Lib.hid hk7
        have B7 := Lib.hid BW7
        rw [hw7] at HA7
        clear HE7 hk7 BW7 hk6 HY HS6' HROW B4 HK4 HK3
        go_wp2_with (go_at_call 13; (with_reducible refine HA7.out.mono ?_); rintro e w10 ⟨rfl, hk10⟩; rw [← hw7] at hk10; have HKW := Lib.hid (HK7.out.trans hk10); have BW := Lib.hid (B7.out.keeps hk10); clear hk10 HA7; obtain ⟨c0, c1, c2, c3, c4, c5, c6⟩ := BW.out)
        clear hw7 y0 y1 y2 y3 y4 yf hyb B7 HK7
        clear c0 c1 c2 c3 c4 c5 c6
        obtain ⟨c0, c1, c2, c3, c4, c5, c6⟩ := BW.out
        go_wp2_with (go_at_call 16; refine (dates_any en _ _ (HV.out.keeps HKW.out) (by omega) HO.out).mono ?_; rintro e w8 ⟨v8, xs, rfl, hv8, hd8, hk8⟩; obtain ⟨ao8, cap8, b8, o8, rfl, hs8⟩ := hv8; have HD8 := Lib.hid hd8; have HS8 := Lib.hid hs8; have HK8 := Lib.hid (HKW.out.trans hk8); have B8 := Lib.hid (BW.out.keeps hk8); have hcap8 := hs8.cap; have hle8 := hs8.le; clear hk8 hs8 hd8 c0 c1 c2 c3 c4 c5 c6)
        obtain ⟨c0, c1, c2, c3, c4, c5, c6⟩ := B8.out
        go_loopw [13] (fun vi wr => ∃ i q : Nat, i ≤ xs.length ∧ vi = .int .i64 i ∧ Hid (∀ j (hj : j < xs.length), j < i → (xs[j] ≤ day ↔ xs[j] ≤ other)) ∧ wr = w8.drewN q) (fun vi _ => xs.length - (intOf vi).toNat)
        case atStart => exact ⟨0, 0, Nat.zero_le _, rfl, Lib.hid (fun j _ h => absurd h (Nat.not_lt_zero _)), rfl⟩
        case round =>
          obtain ⟨i, q, hi, rfl, HN, rfl⟩ := hrel
          by_cases hil : i < xs.length
          · have hix := HS8.out.at1 Try.underlying33 Try.sizeOf3 i hil
            have d0 := HS8.out.int i hil
            by_cases h1 : xs[i] ≤ day
            · by_cases h2 : xs[i] ≤ other
              · have HN2 : Hid (∀ j (hj : j < xs.length), j < i + 1 → (xs[j] ≤ day ↔ xs[j] ≤ other)) := Lib.hid (fun j hj h => by
                  rcases Nat.lt_succ_iff_lt_or_eq.1 h with h | rfl
                  · exact HN.out j hj h
                  · exact ⟨fun _ => h2, fun _ => h1⟩)
                have e1 : decide (xs[i] ≤ day) = true := by simpa using h1
                have e2 : decide (xs[i] ≤ other) = true := by simpa using h2
                go_wp2_with fail
                go_quiet (fail)
                go_wp2_with fail
                go_roundw
                case rel => exact ⟨i + 1, _, by omega, by go_num, HN2, rfl⟩
                case measure => simp [intOf]; omega
              · have e1 : decide (xs[i] ≤ day) = true := by simpa using h1
                have e2 : decide (xs[i] ≤ other) = false := by simpa using h2
                go_wp2_with fail
                go_quiet (fail)
                go_wp2
                go_ret
                exact ⟨rfl, (HK8.out.drewN _).drewN _⟩
            · by_cases h2 : xs[i] ≤ other
              · have e1 : decide (xs[i] ≤ day) = false := by simpa using h1
                have e2 : decide (xs[i] ≤ other) = true := by simpa using h2
                go_wp2_with fail
                go_quiet (fail)
                go_wp2
                go_ret
                exact ⟨rfl, (HK8.out.drewN _).drewN _⟩
              · have HN2 : Hid (∀ j (hj : j < xs.length), j < i + 1 → (xs[j] ≤ day ↔ xs[j] ≤ other)) := Lib.hid (fun j hj h => by
                  rcases Nat.lt_succ_iff_lt_or_eq.1 h with h | rfl
                  · exact HN.out j hj h
                  · exact ⟨fun h => absurd h h1, fun h => absurd h h2⟩)
                have e1 : decide (xs[i] ≤ day) = false := by simpa using h1
                have e2 : decide (xs[i] ≤ other) = false := by simpa using h2
                go_wp2_with fail
                go_quiet (fail)
                go_wp2_with fail
                go_roundw
                case rel => exact ⟨i + 1, _, by omega, by go_num, HN2, rfl⟩
                case measure => simp [intOf]; omega
          · obtain rfl : i = xs.length := by omega
            have hsame : ∀ a ∈ en.links, (a.since ≤ day ↔ a.since ≤ other) := fun a ha => by
              have hm := (HD8.out.2 a.since).2 ⟨a, ha, rfl⟩
              obtain ⟨j, hj, hje⟩ := List.getElem_of_mem hm
              have := HN.out j hj hj
              rw [hje] at this; exact this
            have HAT := Lib.hid (fun W (h : Keeps w W) => at_any en _ code other W (HV.out.keeps h) (by omega))
            cases h1 : dateB day with
            | false =>
              have e1 : ((atS en.chart en.links code day).2 == 2) = true := by rw [atS_range h1]; rfl
              clear hsame h1
              go_wp2_with (go_at_call 13; refine (HAT.out _ (HK8.out.drewN _)).mono ?_; rintro e w9 ⟨rfl, hk9⟩)
              go_ret
              exact ⟨rfl, (HK8.out.drewN _).trans hk9⟩
            | true =>
              cases h2 : dateB other with
              | false =>
                have e2 : ((atS en.chart en.links code other).2 == 2) = true := by rw [atS_range h2]; rfl
                clear hsame h1 h2
                by_cases e1 : (atS en.chart en.links code day).2 = 2
                · have e1' : ((atS en.chart en.links code day).2 == 2) = true := by rw [e1]; rfl
                  clear e1
                  go_wp2_with (go_at_call 13; refine (HAT.out _ (HK8.out.drewN _)).mono ?_; rintro e w9 ⟨rfl, hk9⟩)
                  go_ret
                  exact ⟨rfl, (HK8.out.drewN _).trans hk9⟩
                · have e1' : ((atS en.chart en.links code day).2 == 2) = false := by simpa using e1
                  clear e1
                  go_wp2_with (go_at_call 13; refine (HAT.out _ (HK8.out.drewN _)).mono ?_; rintro e w9 ⟨rfl, hk9⟩)
                  go_ret
                  exact ⟨rfl, (HK8.out.drewN _).trans hk9⟩
              | true =>
                have HEQ := Lib.hid (other_same (chart := en.chart) (code := code) hsame h1 h2)
                have HAT2 : Hid (∀ W, Keeps w W → Calls Try.prog 13 #[.agg #[.string en.name, .string en.cur, .slice aoC en.chart.length capC, .slice aoL en.links.length capL, .bool en.joint], .int .i64 code, .int .i64 other] W fun e w' => e = .returned (.tuple #[.int .i64 (atS en.chart en.links code day).1, .int .i64 (atS en.chart en.links code day).2]) ∧ Keeps W w') := Lib.hid (fun W h => by have := HAT.out W h; rw [HEQ.out] at this; exact this)
                clear hsame h1 h2
                by_cases e1 : (atS en.chart en.links code day).2 = 2
                · have e1' : ((atS en.chart en.links code day).2 == 2) = true := by rw [e1]; rfl
                  clear e1
                  go_wp2_with (go_at_call 13; refine (HAT2.out _ (HK8.out.drewN _)).mono ?_; rintro e w9 ⟨rfl, hk9⟩)
                  go_ret
                  exact ⟨rfl, (HK8.out.drewN _).trans hk9⟩
                · have e1' : ((atS en.chart en.links code day).2 == 2) = false := by simpa using e1
                  clear e1
                  go_wp2_with (go_at_call 13; refine (HAT2.out _ (HK8.out.drewN _)).mono ?_; rintro e w9 ⟨rfl, hk9⟩)
                  go_ret
                  exact ⟨rfl, (HK8.out.drewN _).trans hk9⟩
    · go_enter Try.func5, Try.ntmps5
      go_wp2_with (first | (go_at_call 9; refine (awake_any _).mono ?_; rintro e w1 ⟨rfl, hk1⟩; have HK1 := Lib.hid ((((Keeps.refl w).alloc _).alloc _).trans hk1); have B1 : Hid (CaseB w1 w.heap.size en aoC capC aoL capL code day ∧ BoxL w1 (w.heap.size + 1) l) := Lib.hid ⟨CaseB.keeps ⟨by go_simp, by go_simp, by go_simp, by go_simp, by go_simp, by go_simp, by go_simp⟩ hk1, BoxL.keeps ⟨by go_simp, by go_simp, by go_simp, by go_simp, by go_simp, by go_simp⟩ hk1⟩; obtain ⟨⟨c0, c1, c2, c3, c4, c5, c6⟩, ⟨l0, l1, l2, _, _, _⟩⟩ := B1.out; clear hk1) | (go_at_call 10; refine (HF.out _ (HV.out.keeps HK1.out)).mono ?_; rintro e w2 ⟨rfl, hk2⟩; have HK2 := Lib.hid (HK1.out.trans hk2); clear c0 c1 c2 c3 c4 c5 c6 l0 l1 l2; have B2 := Lib.hid (And.intro (B1.out.1.keeps hk2) (B1.out.2.keeps hk2)); obtain ⟨⟨c0, c1, c2, c3, c4, c5, c6⟩, ⟨l0, l1, l2, _, _, _⟩⟩ := B2.out; clear hk2 HK1 B1 HF) | (go_at_call 13; refine (at_any en _ code day _ (HV.out.keeps HK2.out) (by omega)).mono ?_; rintro e w3 ⟨rfl, hk3⟩; have HK3 := Lib.hid (HK2.out.trans hk3); clear c0 c1 c2 c3 c4 c5 c6 l0 l1 l2; have B3 := Lib.hid (And.intro (B2.out.1.keeps hk3) (B2.out.2.keeps hk3)); obtain ⟨⟨c0, c1, c2, c3, c4, c5, c6⟩, ⟨l0, l1, l2, _, _, _⟩⟩ := B3.out; have hbw := World.block_lt_of_cell? _ _ c0; have hbl := World.block_lt_of_cell? _ _ l0; clear hk3 HK2 B2))
      have HKW := HK3
      have BW := Lib.hid B3.out.1
      clear l0 l1 l2 HLL HK3 B3
      clear c0 c1 c2 c3 c4 c5 c6
      obtain ⟨c0, c1, c2, c3, c4, c5, c6⟩ := BW.out
      go_wp2_with (go_at_call 16; refine (dates_any en _ _ (HV.out.keeps HKW.out) (by omega) HO.out).mono ?_; rintro e w8 ⟨v8, xs, rfl, hv8, hd8, hk8⟩; obtain ⟨ao8, cap8, b8, o8, rfl, hs8⟩ := hv8; have HD8 := Lib.hid hd8; have HS8 := Lib.hid hs8; have HK8 := Lib.hid (HKW.out.trans hk8); have B8 := Lib.hid (BW.out.keeps hk8); have hcap8 := hs8.cap; have hle8 := hs8.le; clear hk8 hs8 hd8 c0 c1 c2 c3 c4 c5 c6)
      obtain ⟨c0, c1, c2, c3, c4, c5, c6⟩ := B8.out
      go_loopw [13] (fun vi wr => ∃ i q : Nat, i ≤ xs.length ∧ vi = .int .i64 i ∧ Hid (∀ j (hj : j < xs.length), j < i → (xs[j] ≤ day ↔ xs[j] ≤ other)) ∧ wr = w8.drewN q) (fun vi _ => xs.length - (intOf vi).toNat)
      case atStart => exact ⟨0, 0, Nat.zero_le _, rfl, Lib.hid (fun j _ h => absurd h (Nat.not_lt_zero _)), rfl⟩
      case round =>
        obtain ⟨i, q, hi, rfl, HN, rfl⟩ := hrel
        by_cases hil : i < xs.length
        · have hix := HS8.out.at1 Try.underlying33 Try.sizeOf3 i hil
          have d0 := HS8.out.int i hil
          by_cases h1 : xs[i] ≤ day
          · by_cases h2 : xs[i] ≤ other
            · have HN2 : Hid (∀ j (hj : j < xs.length), j < i + 1 → (xs[j] ≤ day ↔ xs[j] ≤ other)) := Lib.hid (fun j hj h => by
                rcases Nat.lt_succ_iff_lt_or_eq.1 h with h | rfl
                · exact HN.out j hj h
                · exact ⟨fun _ => h2, fun _ => h1⟩)
              have e1 : decide (xs[i] ≤ day) = true := by simpa using h1
              have e2 : decide (xs[i] ≤ other) = true := by simpa using h2
              go_wp2_with fail
              go_quiet (fail)
              go_wp2_with fail
              go_roundw
              case rel => exact ⟨i + 1, _, by omega, by go_num, HN2, rfl⟩
              case measure => simp [intOf]; omega
            · have e1 : decide (xs[i] ≤ day) = true := by simpa using h1
              have e2 : decide (xs[i] ≤ other) = false := by simpa using h2
              go_wp2_with fail
              go_quiet (fail)
              go_wp2
              go_ret
              exact ⟨rfl, (HK8.out.drewN _).drewN _⟩
          · by_cases h2 : xs[i] ≤ other
            · have e1 : decide (xs[i] ≤ day) = false := by simpa using h1
              have e2 : decide (xs[i] ≤ other) = true := by simpa using h2
              go_wp2_with fail
              go_quiet (fail)
              go_wp2
              go_ret
              exact ⟨rfl, (HK8.out.drewN _).drewN _⟩
            · have HN2 : Hid (∀ j (hj : j < xs.length), j < i + 1 → (xs[j] ≤ day ↔ xs[j] ≤ other)) := Lib.hid (fun j hj h => by
                rcases Nat.lt_succ_iff_lt_or_eq.1 h with h | rfl
                · exact HN.out j hj h
                · exact ⟨fun h => absurd h h1, fun h => absurd h h2⟩)
              have e1 : decide (xs[i] ≤ day) = false := by simpa using h1
              have e2 : decide (xs[i] ≤ other) = false := by simpa using h2
              go_wp2_with fail
              go_quiet (fail)
              go_wp2_with fail
              go_roundw
              case rel => exact ⟨i + 1, _, by omega, by go_num, HN2, rfl⟩
              case measure => simp [intOf]; omega
        · obtain rfl : i = xs.length := by omega
          have hsame : ∀ a ∈ en.links, (a.since ≤ day ↔ a.since ≤ other) := fun a ha => by
            have hm := (HD8.out.2 a.since).2 ⟨a, ha, rfl⟩
            obtain ⟨j, hj, hje⟩ := List.getElem_of_mem hm
            have := HN.out j hj hj
            rw [hje] at this; exact this
          have HAT := Lib.hid (fun W (h : Keeps w W) => at_any en _ code other W (HV.out.keeps h) (by omega))
          cases h1 : dateB day with
          | false =>
            have e1 : ((atS en.chart en.links code day).2 == 2) = true := by rw [atS_range h1]; rfl
            clear hsame h1
            go_wp2_with (go_at_call 13; refine (HAT.out _ (HK8.out.drewN _)).mono ?_; rintro e w9 ⟨rfl, hk9⟩)
            go_ret
            exact ⟨rfl, (HK8.out.drewN _).trans hk9⟩
          | true =>
            cases h2 : dateB other with
            | false =>
              have e2 : ((atS en.chart en.links code other).2 == 2) = true := by rw [atS_range h2]; rfl
              clear hsame h1 h2
              by_cases e1 : (atS en.chart en.links code day).2 = 2
              · have e1' : ((atS en.chart en.links code day).2 == 2) = true := by rw [e1]; rfl
                clear e1
                go_wp2_with (go_at_call 13; refine (HAT.out _ (HK8.out.drewN _)).mono ?_; rintro e w9 ⟨rfl, hk9⟩)
                go_ret
                exact ⟨rfl, (HK8.out.drewN _).trans hk9⟩
              · have e1' : ((atS en.chart en.links code day).2 == 2) = false := by simpa using e1
                clear e1
                go_wp2_with (go_at_call 13; refine (HAT.out _ (HK8.out.drewN _)).mono ?_; rintro e w9 ⟨rfl, hk9⟩)
                go_ret
                exact ⟨rfl, (HK8.out.drewN _).trans hk9⟩
            | true =>
              have HEQ := Lib.hid (other_same (chart := en.chart) (code := code) hsame h1 h2)
              have HAT2 : Hid (∀ W, Keeps w W → Calls Try.prog 13 #[.agg #[.string en.name, .string en.cur, .slice aoC en.chart.length capC, .slice aoL en.links.length capL, .bool en.joint], .int .i64 code, .int .i64 other] W fun e w' => e = .returned (.tuple #[.int .i64 (atS en.chart en.links code day).1, .int .i64 (atS en.chart en.links code day).2]) ∧ Keeps W w') := Lib.hid (fun W h => by have := HAT.out W h; rw [HEQ.out] at this; exact this)
              clear hsame h1 h2
              by_cases e1 : (atS en.chart en.links code day).2 = 2
              · have e1' : ((atS en.chart en.links code day).2 == 2) = true := by rw [e1]; rfl
                clear e1
                go_wp2_with (go_at_call 13; refine (HAT2.out _ (HK8.out.drewN _)).mono ?_; rintro e w9 ⟨rfl, hk9⟩)
                go_ret
                exact ⟨rfl, (HK8.out.drewN _).trans hk9⟩
              · have e1' : ((atS en.chart en.links code day).2 == 2) = false := by simpa using e1
                clear e1
                go_wp2_with (go_at_call 13; refine (HAT2.out _ (HK8.out.drewN _)).mono ?_; rintro e w9 ⟨rfl, hk9⟩)
                go_ret
                exact ⟨rfl, (HK8.out.drewN _).trans hk9⟩
  · cases hf : fewB en with
    | false =>
      have HF : Hid (∀ w, EntV w _ en → Calls Try.prog 10 #[.agg #[.string en.name, .string en.cur, .slice aoC en.chart.length capC, .slice aoL en.links.length capL, .bool en.joint]] w fun e w' => e = .returned (.bool false) ∧ Keeps w w') := Lib.hid (fun w h => by have := few_any en _ w h; rw [hf] at this; exact this)
      clear hf hfew
      go_enter Try.func5, Try.ntmps5
      go_wp2_with (first | (go_at_call 9; refine (awake_any _).mono ?_; rintro e w1 ⟨rfl, hk1⟩; have HK1 := Lib.hid ((((Keeps.refl w).alloc _).alloc _).trans hk1); have B1 : Hid (CaseB w1 w.heap.size en aoC capC aoL capL code day ∧ BoxL w1 (w.heap.size + 1) l) := Lib.hid ⟨CaseB.keeps ⟨by go_simp, by go_simp, by go_simp, by go_simp, by go_simp, by go_simp, by go_simp⟩ hk1, BoxL.keeps ⟨by go_simp, by go_simp, by go_simp, by go_simp, by go_simp, by go_simp⟩ hk1⟩; obtain ⟨⟨c0, c1, c2, c3, c4, c5, c6⟩, ⟨l0, l1, l2, _, _, _⟩⟩ := B1.out; clear hk1) | (go_at_call 10; refine (HF.out _ (HV.out.keeps HK1.out)).mono ?_; rintro e w2 ⟨rfl, hk2⟩; have HK2 := Lib.hid (HK1.out.trans hk2)))
      go_ret
      exact ⟨rfl, HK2.out⟩
    | true =>
      have HF : Hid (∀ w, EntV w _ en → Calls Try.prog 10 #[.agg #[.string en.name, .string en.cur, .slice aoC en.chart.length capC, .slice aoL en.links.length capL, .bool en.joint]] w fun e w' => e = .returned (.bool true) ∧ Keeps w w') := Lib.hid (fun w h => by have := few_any en _ w h; rw [hf] at this; exact this)
      have hgt : 59 < en.links.length := by
        apply Nat.lt_of_not_le
        intro h
        exact hfew ⟨hf, h⟩
      clear hf hfew
      go_enter Try.func5, Try.ntmps5
      go_wp2_with (first | (go_at_call 9; refine (awake_any _).mono ?_; rintro e w1 ⟨rfl, hk1⟩; have HK1 := Lib.hid ((((Keeps.refl w).alloc _).alloc _).trans hk1); have B1 : Hid (CaseB w1 w.heap.size en aoC capC aoL capL code day ∧ BoxL w1 (w.heap.size + 1) l) := Lib.hid ⟨CaseB.keeps ⟨by go_simp, by go_simp, by go_simp, by go_simp, by go_simp, by go_simp, by go_simp⟩ hk1, BoxL.keeps ⟨by go_simp, by go_simp, by go_simp, by go_simp, by go_simp, by go_simp⟩ hk1⟩; obtain ⟨⟨c0, c1, c2, c3, c4, c5, c6⟩, ⟨l0, l1, l2, _, _, _⟩⟩ := B1.out; clear hk1) | (go_at_call 10; refine (HF.out _ (HV.out.keeps HK1.out)).mono ?_; rintro e w2 ⟨rfl, hk2⟩; have HK2 := Lib.hid (HK1.out.trans hk2); clear c0 c1 c2 c3 c4 c5 c6 l0 l1 l2; have B2 := Lib.hid (And.intro (B1.out.1.keeps hk2) (B1.out.2.keeps hk2)); obtain ⟨⟨c0, c1, c2, c3, c4, c5, c6⟩, ⟨l0, l1, l2, _, _, _⟩⟩ := B2.out; clear hk2 B1))
      go_ret
      exact ⟨rfl, HK2.out⟩
end Go.Proofs.Ytppjjmjdiccloab
