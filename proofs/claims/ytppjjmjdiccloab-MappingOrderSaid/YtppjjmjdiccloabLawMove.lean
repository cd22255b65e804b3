/- MappingMove: the walk of the law. -/
import Derived.Test.YtppjjmjdiccloabLawAt
import Derived.Test.YtppjjmjdiccloabMove
namespace Go.Proofs.Ytppjjmjdiccloab
open Go.RowKit
set_option linter.unusedSimpArgs false
set_option linter.unusedVariables false

theorem ones_bal (l : List Bal) : ∀ u ∈ l.flatMap Bal.cells, u.oneCell' = true := fun u hu => by
  obtain ⟨a, _, hu⟩ := List.mem_flatMap.1 hu
  simp [Bal.cells] at hu
  rcases hu with rfl | rfl <;> rfl
theorem sameBx (xs : List Bal) (ao ao2 : Option Addr) (cap b o cap2 b2 o2 : Nat) (w : World) (H : Bals w ao xs cap b o) (H2 : Bals w ao2 xs cap2 b2 o2) (n m : Nat) (hn : n = xs.length) (hm : m = xs.length) :
    Calls Try.prog 20 #[.slice ao n cap, .slice ao2 m cap2] w fun e w' => e = .returned (.bool true) ∧ Keeps w w' := by
  subst hn hm
  exact (sameB_any xs ao ao2 cap b o cap2 b2 o2 w H H2).mono fun e w' ⟨h1, q, h2⟩ => ⟨h1, by rw [h2]; exact (Keeps.refl w).drewN q⟩

set_option maxRecDepth 100000 in
set_option maxHeartbeats 1000000 in
theorem lawMove_any (en : Ent) (v : Value) (l : List Bal) (ao : Option Addr) (cap b o : Nat) (day : Int) (w : World) (HE : EntV w v en) (OK : en.Ok) (H : Bals w ao l cap b o) :
    Calls Try.prog 6 #[v, .slice ao l.length cap, .int .i64 day] w fun e w' => e = .returned (.bool true) ∧ Keeps w w' := by
  have HV := Lib.hid HE
  have HO := Lib.hid (fun x hx => (OK.links x hx).2.1)
  have hcap := Sl.cap H
  have hle := Sl.le H
  obtain ⟨cv, lv, rfl, ⟨aoC, capC, bC, oC, rfl, HC⟩, ⟨aoL, capL, bL, oL, rfl, HL⟩⟩ := HE
  have HH := Lib.hid H
  clear HC HL OK H
  by_cases hfew : fewB en = true ∧ l.length ≤ 60
  · obtain ⟨hf, hl60⟩ := hfew
    obtain ⟨hlc, hll⟩ := fewB_true hf
    have HF : Hid (∀ w, EntV w _ en → Calls Try.prog 10 #[.agg #[.string en.name, .string en.cur, .slice aoC en.chart.length capC, .slice aoL en.links.length capL, .bool en.joint]] w fun e w' => e = .returned (.bool true) ∧ Keeps w w') := Lib.hid (fun w h => by have := few_any en _ w h; rw [hf] at this; exact this)
    have H1C := Lib.hid (ones_bal l)
    clear hf
    go_enter Try.func6, Try.ntmps6
    go_wp2_with (first | (go_at_call 9; refine (awake_any _).mono ?_; rintro e w1 ⟨rfl, hk1⟩; have HK1 := Lib.hid (((Keeps.refl w).alloc _).trans hk1); have B1 : Hid (EntB w1 w.heap.size en aoC capC aoL capL) := Lib.hid (EntB.keeps ⟨by go_simp, by go_simp, by go_simp, by go_simp, by go_simp⟩ hk1); obtain ⟨c0, c1, c2, c3, c4⟩ := B1.out; clear hk1) | (go_at_call 10; refine (HF.out _ (HV.out.keeps HK1.out)).mono ?_; rintro e w2 ⟨rfl, hk2⟩; have HK2 := Lib.hid (HK1.out.trans hk2); have B2 := Lib.hid (B1.out.keeps hk2); have HH2 := Lib.hid (HH.out.keeps HK2.out); clear hk2 c0 c1 c2 c3 c4) | (at_builtin; (refine wpList_app_all elemBal rfl (.tmp 22) (.tmp 23) rfl w2 _ 0 [] rfl w2.heap.size (own_empty (Nat.le_refl _)) (by exact ((Below.refl _ w2).alloc (Nat.le_refl _) _)) (by simp) ao l.length cap b o (l.flatMap Bal.cells) (by rfl) (by exact HH2.out.keeps ((Keeps.refl w2).alloc _)) H1C.out (by omega) (by omega) ?_); intro v5 w5 hown5 hb5 hsz5; rw [Nat.zero_add, List.nil_append] at hown5; have HOWN := Lib.hid hown5; obtain ⟨ao5, cap5, b5, rfl, hs5⟩ := Recs.own HOWN.out; have HS5 := Lib.hid hs5; have hk5 : Keeps w2 w5 := hb5; have HK5 := Lib.hid (HK2.out.trans hk5); have B5 := Lib.hid (B2.out.keeps hk5); obtain ⟨c0, c1, c2, c3, c4⟩ := B5.out; clear hown5 hb5 hk5 hs5 HOWN) | (go_at_call 18; refine (move_any en _ l ao5 cap5 b5 0 day _ (HV.out.keeps HK5.out) HS5.out (by omega) (by omega) HO.out).mono ?_; rintro e w6 ⟨ao6, cap6, b6, o6, rfl, hs6, hk6⟩; have HS6 := Lib.hid hs6; have HK6 := Lib.hid (HK5.out.trans hk6); have HS5b := Lib.hid (HS5.out.keeps hk6); have B6 := Lib.hid (B5.out.keeps hk6); clear c0 c1 c2 c3 c4; obtain ⟨c0, c1, c2, c3, c4⟩ := B6.out; clear hs6 hk6 B5) | (go_at_call 19; refine (rmove_any en _ l ao cap b o day _ (HV.out.keeps HK6.out) (HH.out.keeps HK6.out) (by omega) (by omega)).mono ?_; rintro e w7 ⟨ao7, cap7, b7, o7, rfl, hs7, hk7⟩; have HS7 := Lib.hid hs7; have HK7 := Lib.hid (HK6.out.trans hk7); have HS5c := Lib.hid (HS5b.out.keeps hk7); have HS6c := Lib.hid (HS6.out.keeps hk7); clear hs7 hk7 c0 c1 c2 c3 c4) | (go_at_call 20; (with_reducible refine (sameBx _ ao6 ao7 cap6 b6 o6 cap7 b7 o7 _ HS6c.out HS7.out _ _ rfl rfl).mono ?_); rintro e w8 ⟨rfl, hk8⟩; have HK8 := Lib.hid (HK7.out.trans hk8); have HS5d := Lib.hid (HS5c.out.keeps hk8); have HH8 := Lib.hid (HH.out.keeps HK8.out); clear hk8) | (go_at_call 20; (with_reducible refine (sameBx l ao5 ao cap5 b5 0 cap b o _ HS5d.out HH8.out _ _ rfl rfl).mono ?_); rintro e w9 ⟨rfl, hk9⟩))
    go_ret
    exact ⟨rfl, HK8.out.trans hk9⟩
  · cases hf : fewB en with
    | false =>
      have HF : Hid (∀ w, EntV w _ en → Calls Try.prog 10 #[.agg #[.string en.name, .string en.cur, .slice aoC en.chart.length capC, .slice aoL en.links.length capL, .bool en.joint]] w fun e w' => e = .returned (.bool false) ∧ Keeps w w') := Lib.hid (fun w h => by have := few_any en _ w h; rw [hf] at this; exact this)
      clear hf hfew
      go_enter Try.func6, Try.ntmps6
      go_wp2_with (first | (go_at_call 9; refine (awake_any _).mono ?_; rintro e w1 ⟨rfl, hk1⟩; have HK1 := Lib.hid (((Keeps.refl w).alloc _).trans hk1); have B1 : Hid (EntB w1 w.heap.size en aoC capC aoL capL) := Lib.hid (EntB.keeps ⟨by go_simp, by go_simp, by go_simp, by go_simp, by go_simp⟩ hk1); obtain ⟨c0, c1, c2, c3, c4⟩ := B1.out; clear hk1) | (go_at_call 10; refine (HF.out _ (HV.out.keeps HK1.out)).mono ?_; rintro e w2 ⟨rfl, hk2⟩; have HK2 := Lib.hid (HK1.out.trans hk2)))
      go_ret
      exact ⟨rfl, HK2.out⟩
    | true =>
      have HF : Hid (∀ w, EntV w _ en → Calls Try.prog 10 #[.agg #[.string en.name, .string en.cur, .slice aoC en.chart.length capC, .slice aoL en.links.length capL, .bool en.joint]] w fun e w' => e = .returned (.bool true) ∧ Keeps w w') := Lib.hid (fun w h => by have := few_any en _ w h; rw [hf] at this; exact this)
      have hgt : 60 < l.length := by
        apply Nat.lt_of_not_le
        intro h
        exact hfew ⟨hf, h⟩
      clear hf hfew
      go_enter Try.func6, Try.ntmps6
      go_wp2_with (first | (go_at_call 9; refine (awake_any _).mono ?_; rintro e w1 ⟨rfl, hk1⟩; have HK1 := Lib.hid (((Keeps.refl w).alloc _).trans hk1); have B1 : Hid (EntB w1 w.heap.size en aoC capC aoL capL) := Lib.hid (EntB.keeps ⟨by go_simp, by go_simp, by go_simp, by go_simp, by go_simp⟩ hk1); obtain ⟨c0, c1, c2, c3, c4⟩ := B1.out; clear hk1) | (go_at_call 10; refine (HF.out _ (HV.out.keeps HK1.out)).mono ?_; rintro e w2 ⟨rfl, hk2⟩; have HK2 := Lib.hid (HK1.out.trans hk2)))
      go_ret
      exact ⟨rfl, HK2.out⟩
end Go.Proofs.Ytppjjmjdiccloab
