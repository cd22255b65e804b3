/- The example of the document; MappingAt: the walks. -/
import Derived.Test.YtppjjmjdiccloabRAt
import Derived.Test.YtppjjmjdiccloabRDates
import Derived.Test.YtppjjmjdiccloabCodes
import Derived.Test.YtppjjmjdiccloabOpen
namespace Go.Proofs.Ytppjjmjdiccloab
open Go.RowKit
set_option linter.unusedSimpArgs false

def exEnt : Ent := ⟨⟨#[]⟩, ⟨#[]⟩, [⟨100, 1, 0, 0⟩], [⟨100, 1000, 0⟩, ⟨100, 1100, 50⟩], false⟩
theorem ex_at49 : atS exEnt.chart exEnt.links 100 49 = (1000, 0) := by decide
theorem ex_at1 : atS exEnt.chart exEnt.links 100 (-1) = (0, 15) := by decide
theorem at49 (v : Value) (w : World) (h : EntV w v exEnt) : Calls Try.prog 13 #[v, .int .i64 100, .int .i64 49] w fun e w' => e = .returned (.tuple #[.int .i64 1000, .int .i64 0]) ∧ Keeps w w' := by
  have := at_any exEnt v 100 49 w h (by decide)
  rw [ex_at49] at this; exact this
theorem at1 (v : Value) (w : World) (h : EntV w v exEnt) : Calls Try.prog 13 #[v, .int .i64 100, .int .i64 (-1)] w fun e w' => e = .returned (.tuple #[.int .i64 0, .int .i64 15]) ∧ Keeps w w' := by
  have := at_any exEnt v 100 (-1) w h (by decide)
  rw [ex_at1] at this; exact this

def exWorld (w : World) : World := ((w.alloc (.cells #[.int .i64 100, .int .i64 1, .int .i64 0, .int .i64 0] 50)).alloc (.cells #[.int .i64 100, .int .i64 1000, .int .i64 0, .int .i64 100, .int .i64 1100, .int .i64 50] 39)).alloc (.cells #[.string ⟨#[]⟩, .string ⟨#[]⟩, .slice (some ⟨w.heap.size, 0, none⟩) 1 1, .slice (some ⟨w.heap.size + 1, 0, none⟩) 2 2, .bool false] 25)
theorem exV (w : World) : EntV (exWorld w) (.agg #[.string ⟨#[]⟩, .string ⟨#[]⟩, .slice (some ⟨w.heap.size, 0, none⟩) 1 1, .slice (some ⟨w.heap.size + 1, 0, none⟩) 2 2, .bool false]) exEnt := by
  refine ⟨_, _, rfl, ⟨some ⟨w.heap.size, 0, none⟩, 1, w.heap.size, 0, rfl, ?_⟩, ⟨some ⟨w.heap.size + 1, 0, none⟩, 2, w.heap.size + 1, 0, rfl, ?_⟩⟩
  · exact Sl.keeps (Sl.lit w 4 1 [.int .i64 100, .int .i64 1, .int .i64 0, .int .i64 0] 50 rfl (by omega)) (((Keeps.refl _).alloc _).alloc _)
  · have := Sl.lit (w.alloc (.cells #[.int .i64 100, .int .i64 1, .int .i64 0, .int .i64 0] 50)) 3 2 [.int .i64 100, .int .i64 1000, .int .i64 0, .int .i64 100, .int .i64 1100, .int .i64 50] 39 rfl (by omega)
    rw [World.size_alloc] at this
    exact Sl.keeps this ((Keeps.refl _).alloc _)
theorem exK (w : World) : Keeps w (exWorld w) := (((Keeps.refl w).alloc _).alloc _).alloc _

set_option maxHeartbeats 1000000 in
theorem awake_any (w : World) : Calls Try.prog 9 #[] w fun e w' => e = .returned (.bool true) ∧ Keeps w w' := by
  have HV := Lib.hid (exV w)
  have HK := Lib.hid (exK w)
  have HC : Hid (Calls Try.prog 13 #[.agg #[.string ⟨#[]⟩, .string ⟨#[]⟩, .slice (some ⟨w.heap.size, 0, none⟩) 1 1, .slice (some ⟨w.heap.size + 1, 0, none⟩) 2 2, .bool false], .int .i64 100, .int .i64 49] (exWorld w) fun e w' => e = .returned (.tuple #[.int .i64 1000, .int .i64 0]) ∧ Keeps (exWorld w) w') := Lib.hid (at49 _ _ (exV w))
  unfold exWorld at HC HV HK
  go_enter Try.func9, Try.ntmps9
  go_wp2_with (first | (go_at_call 13; (with_reducible refine HC.out.mono ?_); rintro e w2 ⟨rfl, hk2⟩; have HC2 := Lib.hid (at1 _ _ (HV.out.keeps hk2)); have b0 := hk2.cell (p := ⟨w.heap.size + 1 + 1, 0, none⟩) (v := .string ⟨#[]⟩) (by go_simp); have b1 := hk2.cell (p := ⟨w.heap.size + 1 + 1, 1, none⟩) (v := .string ⟨#[]⟩) (by go_simp); have b2 := hk2.cell (p := ⟨w.heap.size + 1 + 1, 2, none⟩) (v := .slice (some ⟨w.heap.size, 0, none⟩) 1 1) (by go_simp); have b3 := hk2.cell (p := ⟨w.heap.size + 1 + 1, 3, none⟩) (v := .slice (some ⟨w.heap.size + 1, 0, none⟩) 2 2) (by go_simp); have b4 := hk2.cell (p := ⟨w.heap.size + 1 + 1, 4, none⟩) (v := .bool false) (by go_simp); have HK2 := Lib.hid (HK.out.trans hk2); clear hk2 HC HV HK) | (go_at_call 13; (with_reducible refine HC2.out.mono ?_); rintro e w3 ⟨rfl, hk3⟩))
  go_ret
  exact ⟨rfl, HK2.out.trans hk3⟩

def fewB (en : Ent) : Bool := decide (en.chart.length ≤ 60) && decide (en.links.length ≤ 60) && decide (en.name.size ≤ 100) && decide (en.cur.size ≤ 100)
theorem fewB_true {en : Ent} (h : fewB en = true) : en.chart.length ≤ 60 ∧ en.links.length ≤ 60 := by
  simp [fewB] at h; exact ⟨h.1.1.1, h.1.1.2⟩
set_option maxHeartbeats 1000000 in
theorem few_any (en : Ent) (v : Value) (w : World) (HE : EntV w v en) : Calls Try.prog 10 #[v] w fun e w' => e = .returned (.bool (fewB en)) ∧ Keeps w w' := by
  obtain ⟨cv, lv, rfl, ⟨aoC, capC, bC, oC, rfl, HC⟩, ⟨aoL, capL, bL, oL, rfl, HL⟩⟩ := HE
  by_cases h1 : en.chart.length ≤ 60
  · by_cases h2 : en.links.length ≤ 60
    · by_cases h3 : en.name.size ≤ 100
      · have HF : Hid (fewB en = decide ((en.cur.size : Int) ≤ 100)) := Lib.hid (by simp [fewB, h1, h2, h3]; omega)
        go_enter Try.func10, Try.ntmps10
        go_wp2
        go_ret
        exact ⟨by rw [HF.out]; rfl, (Keeps.refl w).alloc _⟩
      · have HF := Lib.hid (show fewB en = false by simp [fewB, h1, h2, h3])
        go_enter Try.func10, Try.ntmps10
        go_wp2
        go_ret
        exact ⟨by rw [HF.out]; rfl, (Keeps.refl w).alloc _⟩
    · have HF := Lib.hid (show fewB en = false by simp [fewB, h1, h2])
      go_enter Try.func10, Try.ntmps10
      go_wp2
      go_ret
      exact ⟨by rw [HF.out]; rfl, (Keeps.refl w).alloc _⟩
  · have HF := Lib.hid (show fewB en = false by simp [fewB, h1])
    go_enter Try.func10, Try.ntmps10
    go_wp2
    go_ret
    exact ⟨by rw [HF.out]; rfl, (Keeps.refl w).alloc _⟩

theorem codes_same (v u : Value) (xs : List Int) (w : World) (h : IntL w v xs) (h2 : IntL w u xs) : Calls Try.prog 15 #[v, u] w fun e w' => Gives w (.bool true) e w' := by
  obtain ⟨ao, cap, b, o, rfl, hs⟩ := h
  obtain ⟨ao2, cap2, b2, o2, rfl, hs2⟩ := h2
  have := codes_any xs xs ao ao2 cap b o cap2 b2 o2 w hs hs2
  simpa using this
theorem atS_err (c : List Acc) (l : List Lnk) (code day : Int) : (atS c l code day).2 = 0 ∨ ((atS c l code day).2 == 0) = false := by
  by_cases h : (atS c l code day).2 = 0
  · exact .inl h
  · exact .inr (by simpa using h)
set_option maxRecDepth 100000 in
set_option maxHeartbeats 1000000 in
theorem lawAt_any (en : Ent) (v : Value) (code day : Int) (w : World) (HE : EntV w v en) (OK : en.Ok) :
    Calls Try.prog 4 #[v, .int .i64 code, .int .i64 day] w fun e w' => e = .returned (.bool true) ∧ Keeps w w' := by
  have HV := Lib.hid HE
  have HO := Lib.hid (fun x hx => (OK.links x hx).2.2)
  obtain ⟨cv, lv, rfl, ⟨aoC, capC, bC, oC, rfl, HC⟩, ⟨aoL, capL, bL, oL, rfl, HL⟩⟩ := HE
  clear HC HL OK
  cases hf : fewB en with
  | false =>
    have HF : Hid (∀ w, EntV w _ en → Calls Try.prog 10 #[.agg #[.string en.name, .string en.cur, .slice aoC en.chart.length capC, .slice aoL en.links.length capL, .bool en.joint]] w fun e w' => e = .returned (.bool false) ∧ Keeps w w') := Lib.hid (fun w h => by have := few_any en _ w h; rw [hf] at this; exact this)
    clear hf
    go_enter Try.func4, Try.ntmps4
    go_wp2_with (first | (go_at_call 9; refine (awake_any _).mono ?_; rintro e w1 ⟨rfl, hk1⟩; have HK1 := Lib.hid (((Keeps.refl w).alloc _).trans hk1); have b0 := hk1.cell (p := ⟨w.heap.size, 0, none⟩) (v := .string en.name) (by go_simp); have b1 := hk1.cell (p := ⟨w.heap.size, 1, none⟩) (v := .string en.cur) (by go_simp); have b2 := hk1.cell (p := ⟨w.heap.size, 2, none⟩) (v := .slice aoC en.chart.length capC) (by go_simp); have b3 := hk1.cell (p := ⟨w.heap.size, 3, none⟩) (v := .slice aoL en.links.length capL) (by go_simp); have b4 := hk1.cell (p := ⟨w.heap.size, 4, none⟩) (v := .bool en.joint) (by go_simp); clear hk1) | (go_at_call 10; refine (HF.out _ (HV.out.keeps HK1.out)).mono ?_; rintro e w2 ⟨rfl, hk2⟩))
    go_ret
    exact ⟨rfl, HK1.out.trans hk2⟩
  | true =>
    obtain ⟨hlc, hll⟩ := fewB_true hf
    have HF : Hid (∀ w, EntV w _ en → Calls Try.prog 10 #[.agg #[.string en.name, .string en.cur, .slice aoC en.chart.length capC, .slice aoL en.links.length capL, .bool en.joint]] w fun e w' => e = .returned (.bool true) ∧ Keeps w w') := Lib.hid (fun w h => by have := few_any en _ w h; rw [hf] at this; exact this)
    clear hf
    go_enter Try.func4, Try.ntmps4
    go_wp2_with (first | (go_at_call 9; refine (awake_any _).mono ?_; rintro e w1 ⟨rfl, hk1⟩; have HK1 := Lib.hid (((Keeps.refl w).alloc _).trans hk1); have b0 := hk1.cell (p := ⟨w.heap.size, 0, none⟩) (v := .string en.name) (by go_simp); have b1 := hk1.cell (p := ⟨w.heap.size, 1, none⟩) (v := .string en.cur) (by go_simp); have b2 := hk1.cell (p := ⟨w.heap.size, 2, none⟩) (v := .slice aoC en.chart.length capC) (by go_simp); have b3 := hk1.cell (p := ⟨w.heap.size, 3, none⟩) (v := .slice aoL en.links.length capL) (by go_simp); have b4 := hk1.cell (p := ⟨w.heap.size, 4, none⟩) (v := .bool en.joint) (by go_simp); clear hk1) | (go_at_call 10; refine (HF.out _ (HV.out.keeps HK1.out)).mono ?_; rintro e w2 ⟨rfl, hk2⟩; have HK2 := Lib.hid (HK1.out.trans hk2); have c0 := hk2.cell b0; have c1 := hk2.cell b1; have c2 := hk2.cell b2; have c3 := hk2.cell b3; have c4 := hk2.cell b4; clear hk2 b0 b1 b2 b3 b4) | (go_at_call 13; refine (at_any en _ code day _ (HV.out.keeps HK2.out) (by omega)).mono ?_; rintro e w3 ⟨rfl, hk3⟩; have HK3 := Lib.hid (HK2.out.trans hk3); have d0 := hk3.cell c0; have d1 := hk3.cell c1; have d2 := hk3.cell c2; have d3 := hk3.cell c3; have d4 := hk3.cell c4; clear hk3 c0 c1 c2 c3 c4) | (go_at_call 14; refine (rat_any en _ code day _ (HV.out.keeps HK3.out) (by omega)).mono ?_; rintro e w4 ⟨rfl, hk4⟩; have HK4 := Lib.hid (HK3.out.trans hk4); have f0 := hk4.cell d0; have f1 := hk4.cell d1; have f2 := hk4.cell d2; have f3 := hk4.cell d3; have f4 := hk4.cell d4; clear hk4 d0 d1 d2 d3 d4))
    have HK4K := Lib.hid ((Keeps.refl w4).drew)
    go_region_held3 (fun w' => w'.cell? ⟨w.heap.size, 0, none⟩ = some (.string en.name) ∧ w'.cell? ⟨w.heap.size, 1, none⟩ = some (.string en.cur) ∧ w'.cell? ⟨w.heap.size, 2, none⟩ = some (.slice aoC en.chart.length capC) ∧ w'.cell? ⟨w.heap.size, 3, none⟩ = some (.slice aoL en.links.length capL) ∧ w'.cell? ⟨w.heap.size, 4, none⟩ = some (.bool en.joint))
      (first | go_keep | (exact ⟨hk7.cell f0, hk7.cell f1, hk7.cell f2, hk7.cell f3, hk7.cell f4⟩) | (exact ⟨hk6.cell f0, hk6.cell f1, hk6.cell f2, hk6.cell f3, hk6.cell f4⟩) | (exact ⟨hk5.cell f0, hk5.cell f1, hk5.cell f2, hk5.cell f3, hk5.cell f4⟩))
      (first | (go_at_call 16; refine (dates_any en _ _ (HV.out.keeps HK4.out.drew) (by omega) HO.out).mono ?_; rintro e w5 ⟨v5, xs, rfl, hv5, hd5, hk5'⟩; have hk5 : Keeps w4 w5 := HK4K.out.trans hk5') | (go_at_call 17; refine (rdates_any en _ _ (HV.out.keeps (HK4.out.trans hk5)) (by omega)).mono ?_; rintro e w6 ⟨v6, ys, rfl, hv6, hd6, hk6'⟩; have hk6 : Keeps w4 w6 := hk5.trans hk6'; obtain rfl := hd5.eq hd6) | (go_at_call 15; refine (codes_same _ _ _ _ (hv5.keeps hk6') hv6).mono ?_; rintro e w7 ⟨rfl, q7, hw7⟩; have hk7 : Keeps w4 w7 := (by rw [hw7]; exact hk6.drewN _)))
    go_wp2
    go_ret
    exact ⟨rfl, HK4.out.trans (hk6.drewN _)⟩
end Go.Proofs.Ytppjjmjdiccloab

