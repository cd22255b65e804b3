/- The reference's Dates: the walk. -/
import Derived.Test.YtppjjmjdiccloabDates
import Derived.Test.YtppjjmjdiccloabApp2
import Derived.Deep.RegionLaw
namespace Go.Proofs.Ytppjjmjdiccloab
open Go.RowKit
set_option linter.unusedSimpArgs false

theorem elemInt : ElemOf Try.prog 33 3 (.int .i64 0) 1 8 := ⟨Try.underlying33, by kernel_rfl, rfl, by omega⟩
theorem IsDates.same {l : List Lnk} {a : Lnk} {xs : List Int} (h : IsDates l xs) {k : Nat} (hk : k < xs.length) (he : xs[k] = a.since) : IsDates (l ++ [a]) xs := by
  refine ⟨h.1, fun x => ?_⟩
  rw [h.2]
  constructor
  · rintro ⟨c, hc, rfl⟩; exact ⟨c, by simp [hc], rfl⟩
  · rintro ⟨c, hc, rfl⟩
    rcases List.mem_append.1 hc with hc | hc
    · exact ⟨c, hc, rfl⟩
    · simp at hc; subst hc
      exact (h.2 _).1 (he ▸ List.getElem_mem hk)
theorem asc_insert {xs : List Int} (h : Asc xs) {k : Nat} {d : Int} (hk : k ≤ xs.length) (h1 : ∀ j (hj : j < xs.length), j < k → xs[j] < d) (h2 : ∀ hk : k < xs.length, d < xs[k]) : Asc (xs.take k ++ [d] ++ xs.drop k) := by
  unfold Asc at *
  rw [List.append_assoc, List.pairwise_append]
  have h3 : ∀ x ∈ xs.take k, x < d := fun x hx => by
    obtain ⟨j, hj, rfl⟩ := List.getElem_of_mem hx
    rw [List.getElem_take]
    rw [List.length_take] at hj
    exact h1 j (by omega) (by omega)
  have h4 : ∀ x ∈ xs.drop k, d < x := fun x hx => by
    obtain ⟨j, hj, rfl⟩ := List.getElem_of_mem hx
    rw [List.getElem_drop]
    rw [List.length_drop] at hj
    have h5 := h2 (by omega)
    rcases Nat.eq_zero_or_pos j with rfl | hj0
    · simpa using h5
    · have := (List.pairwise_iff_getElem.1 h) k (k + j) (by omega) (by omega) (by omega)
      omega
  refine ⟨h.sublist (List.take_sublist _ _), ?_, fun a ha b hb => ?_⟩
  · rw [List.singleton_append, List.pairwise_cons]
    exact ⟨h4, h.sublist (List.drop_sublist _ _)⟩
  · rw [List.singleton_append, List.mem_cons] at hb
    rcases hb with rfl | hb
    · exact h3 a ha
    · have := h3 a ha; have := h4 b hb; omega
theorem mem_insert {xs : List Int} {k : Nat} {d x : Int} : x ∈ xs.take k ++ [d] ++ xs.drop k ↔ x = d ∨ x ∈ xs := by
  have : x ∈ xs ↔ x ∈ xs.take k ∨ x ∈ xs.drop k := by rw [← List.mem_append, List.take_append_drop]
  rw [this, List.mem_append, List.mem_append, List.mem_singleton]
  constructor
  · rintro ((h | h) | h); exact .inr (.inl h); exact .inl h; exact .inr (.inr h)
  · rintro (h | h | h); exact .inl (.inr h); exact .inl (.inl h); exact .inr h
theorem IsDates.insert {l : List Lnk} {a : Lnk} {xs : List Int} (h : IsDates l xs) {k : Nat} (hk : k ≤ xs.length) (h1 : ∀ j (hj : j < xs.length), j < k → xs[j] < a.since) (h2 : ∀ hk : k < xs.length, a.since < xs[k]) : IsDates (l ++ [a]) (xs.take k ++ [a.since] ++ xs.drop k) := by
  refine ⟨asc_insert h.1 hk h1 h2, fun x => ?_⟩
  rw [mem_insert, h.2]
  constructor
  · rintro (rfl | ⟨c, hc, rfl⟩)
    · exact ⟨a, by simp, rfl⟩
    · exact ⟨c, by simp [hc], rfl⟩
  · rintro ⟨c, hc, rfl⟩
    rcases List.mem_append.1 hc with hc | hc
    · exact .inr ⟨c, hc, rfl⟩
    · simp at hc; subst hc; exact .inl rfl

set_option maxRecDepth 100000 in
set_option maxHeartbeats 1000000 in
theorem rdates_any (en : Ent) (v : Value) (w : World) (HE : EntV w v en) (hlen : en.links.length ≤ 1000) :
    Calls Try.prog 17 #[v] w (DatesOut w en.links) := by
  obtain ⟨cv, lv, rfl, ⟨aoC, capC, bC, oC, rfl, HC⟩, ⟨aoL, capL, bL, oL, rfl, HL⟩⟩ := HE
  have hcap := Sl.cap HL
  have hle := Sl.le HL
  go_enter Try.func17, Try.ntmps17
  go_wp2_with fail
  go_loopw [3, 4] (fun vo vi wr => ∃ (i : Nat) (xs : List Int), i ≤ en.links.length ∧ xs.length ≤ i ∧ vi = .int .i64 i ∧ Hid (IsDates (en.links.take i) xs) ∧ Hid (Keeps w wr ∧ wr.cell? ⟨w.heap.size, 3, none⟩ = some (.slice aoL en.links.length capL) ∧ IntL wr vo xs)) (fun _ vi _ => en.links.length - (intOf vi).toNat)
  case atStart => exact ⟨0, [], Nat.zero_le _, Nat.le_refl _, rfl, Lib.hid ⟨List.Pairwise.nil, by simp⟩, Lib.hid ⟨(Keeps.refl w).alloc _, by go_simp, none, 0, 0, 0, rfl, Sl.nil _ _⟩⟩
  case round =>
    obtain ⟨i, xs, hi, hxl, rfl, HD, HW⟩ := hrel
    obtain ⟨wo, rfl⟩ : ∃ wo : World, wo = wr := ⟨_, rfl⟩
    have e3 := HW.out.2.1
    have hbw := World.block_lt_of_cell? wo _ e3
    by_cases hlt : i < en.links.length
    · obtain ⟨ao, cap, b, o, hv, hs⟩ := HW.out.2.2
      have HSl := Lib.hid hs
      have hcx := hs.cap
      have hlx := hs.le
      subst hv
      have HLk := HL.keeps HW.out.1
      have hix := Sl.at HLk Try.underlying23 Try.sizeOf39 i hlt
      have c2 := HLk.cell Lnk.len i hlt 2 _ rfl
      have HT := Lib.hid (take_snoc en.links i hlt)
      clear HLk hs
      go_wp2_with fail
      go_loop [6] (fun vk => ∃ k : Nat, k ≤ xs.length ∧ vk = .int .i64 k ∧ Hid (∀ j (hj : j < xs.length), j < k → xs[j] < en.links[i].since)) (fun vk => xs.length - (intOf vk).toNat)
      case atStart => exact ⟨0, Nat.zero_le _, rfl, Lib.hid (fun j _ h => absurd h (Nat.not_lt_zero _))⟩
      case round =>
        obtain ⟨k, hk, rfl, HN⟩ := hrel
        by_cases hk1 : k < xs.length
        · have hix3 := HSl.out.at1 Try.underlying33 Try.sizeOf3 k hk1
          have d0 := HSl.out.int k hk1
          by_cases hlt2 : xs[k] < en.links[i].since
          · have HN2 : Hid (∀ j (hj : j < xs.length), j < k + 1 → xs[j] < en.links[i].since) := Lib.hid (fun j hj h => by
              rcases Nat.lt_succ_iff_lt_or_eq.1 h with h | rfl
              · exact HN.out j hj h
              · exact hlt2)
            go_wp2
            go_round
            case rel => exact ⟨k + 1, by omega, by go_num, HN2⟩
            case measure => simp [intOf]; omega
          · by_cases he : xs[k] = en.links[i].since
            · have HD2 : Hid (IsDates (en.links.take (i + 1)) xs) := Lib.hid (by rw [HT.out]; exact HD.out.same hk1 he)
              have e1 : (xs[k] == en.links[i].since) = true := by simpa using he
              clear he
              go_wp2
              go_roundw
              case rel => exact ⟨i + 1, xs, by omega, by omega, by go_num, HD2, HW⟩
              case measure => simp [intOf]; omega
            · have e1 : (xs[k] == en.links[i].since) = false := by simpa using he
              have HD2 : Hid (IsDates (en.links.take (i + 1)) (xs.take k ++ [en.links[i].since] ++ xs.drop k)) := Lib.hid (by rw [HT.out]; exact HD.out.insert (by omega) HN.out (fun _ => by omega))
              clear he
              go_wp2
              obtain ⟨ao5, hcf, hs5⟩ := Sl.cutFrom HSl.out Try.underlying33 Try.sizeOf3 k hk
              have hct := run_cutTo Try.underlying33 Try.sizeOf3 ao xs.length cap k (by omega) hcx
              rw [Nat.mul_one] at hs5
              have HS5 := Lib.hid hs5
              have HS1 := Lib.hid (HSl.out.takeInt k hk)
              rw [List.length_take, Nat.min_eq_left hk] at HS1
              have HO1 : Hid (∀ u ∈ (xs.take k).map (Value.int .i64), u.oneCell' = true) := Lib.hid (ints_oneCell _ _)
              have HO2 : Hid (∀ u ∈ (xs.map (Value.int .i64)).drop k, u.oneCell' = true) := Lib.hid (fun u hu => ints_oneCell _ _ u (List.mem_of_mem_drop hu))
              have HLN : Hid ((xs.take k ++ [en.links[i].since] ++ xs.drop k).length = xs.length + 1) := Lib.hid (by rw [List.length_append, List.length_append, List.length_take, List.length_drop, List.length_singleton]; omega)
              clear hs5 d0 hix3
              go_region_law (first | (refine step_all_raw elemInt (by rfl) (.tmp 46) (.tmp 49) (by rfl) _ 0 [] (by rfl) wo.heap.size (by first | exact own_emptyx (by simp) (by simp) | exact (own_emptyx (by simp) (by simp)).alloc _) (by first | (simp; done) | (simp; omega)) ao k cap b o ((xs.take k).map (.int .i64)) (by rfl) (by first | exact HS1.out.keeps ((Keeps.refl wo).alloc _).drew | exact HS1.out.keeps (((Keeps.refl wo).alloc _).alloc _).drew) HO1.out (by omega) (by omega) ?_; intro v1 w1 hown1 hgrow1 hat1; rw [Nat.zero_add, List.nil_append] at hown1; have hk1 : Keeps wo w1 := (by first | exact Below.grown ((Keeps.refl wo).alloc _).drew hgrow1 (by first | (simp; done) | (simp; omega)) (fun j hj => by simp [Act.eval, Value.ownBlock] at hj; omega) | exact Below.grown (((Keeps.refl wo).alloc _).alloc _).drew hgrow1 (by first | (simp; done) | (simp; omega)) (fun j hj => by simp [Act.eval, Value.ownBlock] at hj; omega)); have hz1 := hk1.size) | (refine step_one elemInt (by rfl) (.tmp 50) (.tmp 52) (by rfl) v1 k _ (by rfl) wo.heap.size (by first | exact hown1 | exact hown1.alloc _) (by first | omega | (simp; omega)) _ _ (.int .i64 en.links[i].since) (by rfl) (by first | exact hgrow1.cell (by go_simp) (by simp [Act.eval, Value.ownBlock]) | go_simp) (by rfl) (by omega) (by omega) ?_; intro v2 w2 hown2 hgrow2 hat2; have hk2 : Keeps wo w2 := (by first | exact Below.grown hk1 hgrow2 hk1.size (fun j hj => (hown1.lt j hj).1) | exact Below.grown (Keeps.alloc hk1 _) hgrow2 (by simp; omega) (fun j hj => (hown1.lt j hj).1)); have hz2 := hk2.size) | (refine step_all_raw elemInt (by rfl) (.tmp 53) (.tmp 56) (by rfl) v2 (k + 1) _ (by rfl) wo.heap.size hown2 hz2 ao5 (xs.length - k) (cap - k) b (o + k) ((xs.map (.int .i64)).drop k) (by rfl) (HS5.out.keeps hk2) HO2.out (by omega) (by omega) ?_; intro v3 w3 hown3 hgrow3 hat3; have hk3 : Keeps wo w3 := Below.grown hk2 hgrow3 hk2.size (fun j hj => (hown2.lt j hj).1)))
              all_goals
                have HW3 : Hid (Keeps w w3 ∧ w3.cell? ⟨w.heap.size, 3, none⟩ = some (.slice aoL en.links.length capL) ∧ IntL w3 v3 (xs.take k ++ [en.links[i].since] ++ xs.drop k)) := Lib.hid ⟨HW.out.1.trans hk3, hk3.cell HW.out.2.1, IntL.own (by
                  have h := hown3
                  rw [show k + 1 + (xs.length - k) = xs.length + 1 from by omega] at h
                  rw [HLN.out, List.map_append, List.map_append, List.map_drop]; exact h)⟩
                clear hown1 hgrow1 hat1 hk1 hz1 hown2 hgrow2 hat2 hk2 hz2 hown3 hgrow3 hat3 hk3
                go_wp2_with fail
                go_roundw
                case rel => exact ⟨i + 1, _, by omega, by rw [HLN.out]; omega, by go_num, HD2, HW3⟩
                case measure => simp [intOf]; omega
        · have HD2 : Hid (IsDates (en.links.take (i + 1)) (xs.take k ++ [en.links[i].since] ++ xs.drop k)) := Lib.hid (by rw [HT.out]; exact HD.out.insert (by omega) HN.out (fun h => by omega))
          go_wp2
          obtain ⟨ao5, hcf, hs5⟩ := Sl.cutFrom HSl.out Try.underlying33 Try.sizeOf3 k hk
          have hct := run_cutTo Try.underlying33 Try.sizeOf3 ao xs.length cap k (by omega) hcx
          rw [Nat.mul_one] at hs5
          have HS5 := Lib.hid hs5
          have HS1 := Lib.hid (HSl.out.takeInt k hk)
          rw [List.length_take, Nat.min_eq_left hk] at HS1
          have HO1 : Hid (∀ u ∈ (xs.take k).map (Value.int .i64), u.oneCell' = true) := Lib.hid (ints_oneCell _ _)
          have HO2 : Hid (∀ u ∈ (xs.map (Value.int .i64)).drop k, u.oneCell' = true) := Lib.hid (fun u hu => ints_oneCell _ _ u (List.mem_of_mem_drop hu))
          have HLN : Hid ((xs.take k ++ [en.links[i].since] ++ xs.drop k).length = xs.length + 1) := Lib.hid (by rw [List.length_append, List.length_append, List.length_take, List.length_drop, List.length_singleton]; omega)
          clear hs5
          go_region_law (first | (refine step_all_raw elemInt (by rfl) (.tmp 46) (.tmp 49) (by rfl) _ 0 [] (by rfl) wo.heap.size (by first | exact own_emptyx (by simp) (by simp) | exact (own_emptyx (by simp) (by simp)).alloc _) (by first | (simp; done) | (simp; omega)) ao k cap b o ((xs.take k).map (.int .i64)) (by rfl) (by first | exact HS1.out.keeps ((Keeps.refl wo).alloc _).drew | exact HS1.out.keeps (((Keeps.refl wo).alloc _).alloc _).drew) HO1.out (by omega) (by omega) ?_; intro v1 w1 hown1 hgrow1 hat1; rw [Nat.zero_add, List.nil_append] at hown1; have hk1 : Keeps wo w1 := (by first | exact Below.grown ((Keeps.refl wo).alloc _).drew hgrow1 (by first | (simp; done) | (simp; omega)) (fun j hj => by simp [Act.eval, Value.ownBlock] at hj; omega) | exact Below.grown (((Keeps.refl wo).alloc _).alloc _).drew hgrow1 (by first | (simp; done) | (simp; omega)) (fun j hj => by simp [Act.eval, Value.ownBlock] at hj; omega)); have hz1 := hk1.size) | (refine step_one elemInt (by rfl) (.tmp 50) (.tmp 52) (by rfl) v1 k _ (by rfl) wo.heap.size (by first | exact hown1 | exact hown1.alloc _) (by first | omega | (simp; omega)) _ _ (.int .i64 en.links[i].since) (by rfl) (by first | exact hgrow1.cell (by go_simp) (by simp [Act.eval, Value.ownBlock]) | go_simp) (by rfl) (by omega) (by omega) ?_; intro v2 w2 hown2 hgrow2 hat2; have hk2 : Keeps wo w2 := (by first | exact Below.grown hk1 hgrow2 hk1.size (fun j hj => (hown1.lt j hj).1) | exact Below.grown (Keeps.alloc hk1 _) hgrow2 (by simp; omega) (fun j hj => (hown1.lt j hj).1)); have hz2 := hk2.size) | (refine step_all_raw elemInt (by rfl) (.tmp 53) (.tmp 56) (by rfl) v2 (k + 1) _ (by rfl) wo.heap.size hown2 hz2 ao5 (xs.length - k) (cap - k) b (o + k) ((xs.map (.int .i64)).drop k) (by rfl) (HS5.out.keeps hk2) HO2.out (by omega) (by omega) ?_; intro v3 w3 hown3 hgrow3 hat3; have hk3 : Keeps wo w3 := Below.grown hk2 hgrow3 hk2.size (fun j hj => (hown2.lt j hj).1)))
          all_goals
            have HW3 : Hid (Keeps w w3 ∧ w3.cell? ⟨w.heap.size, 3, none⟩ = some (.slice aoL en.links.length capL) ∧ IntL w3 v3 (xs.take k ++ [en.links[i].since] ++ xs.drop k)) := Lib.hid ⟨HW.out.1.trans hk3, hk3.cell HW.out.2.1, IntL.own (by
              have h := hown3
              rw [show k + 1 + (xs.length - k) = xs.length + 1 from by omega] at h
              rw [HLN.out, List.map_append, List.map_append, List.map_drop]; exact h)⟩
            clear hown1 hgrow1 hat1 hk1 hz1 hown2 hgrow2 hat2 hk2 hz2 hown3 hgrow3 hat3 hk3
            go_wp2_with fail
            go_roundw
            case rel => exact ⟨i + 1, _, by omega, by rw [HLN.out]; omega, by go_num, HD2, HW3⟩
            case measure => simp [intOf]; omega
    · obtain rfl : i = en.links.length := by omega
      obtain ⟨ao, cap, b, o, hv, hs⟩ := HW.out.2.2
      have HD2 := HD.out
      rw [List.take_length] at HD2
      subst hv
      go_wp2
      go_ret
      exact ⟨.slice ao xs.length cap, xs, rfl, ⟨ao, cap, b, o, rfl, hs⟩, HD2, HW.out.1⟩
end Go.Proofs.Ytppjjmjdiccloab
