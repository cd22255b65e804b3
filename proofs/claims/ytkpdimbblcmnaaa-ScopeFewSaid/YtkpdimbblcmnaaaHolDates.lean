/- holding.Dates and the reference's Dates: the walks. -/
import Derived.Test.YtkpdimbblcmnaaaKMap
import Derived.Test.YtkpdimbblcmnaaaKHolP
import Derived.Test.YtkpdimbblcmnaaaKBase
import Derived.Deep.RegionLaw
import Derived.Deep.QuietTactic
import Derived.BigQuiet
namespace Go.Proofs.Ytkpdimbblcmnaaa
open Go.RowKit
set_option linter.unusedSimpArgs false
set_option linter.unusedVariables false

/-- The dates of holdings: in order, none twice. -/
def IsDates (l : List Hol) (xs : List Int) : Prop := Asc xs ∧ ∀ x, x ∈ xs ↔ ∃ a ∈ l, a.date = x
theorem IsDates.eq {l : List Hol} {xs ys : List Int} (h : IsDates l xs) (h2 : IsDates l ys) : xs = ys := h.1.eq h2.1 fun x => (h.2 x).trans (h2.2 x).symm
def DatesOut (w : World) (l : List Hol) (e : Ending) (w' : World) : Prop := ∃ v xs, e = .returned v ∧ IntL w' v xs ∧ IsDates l xs ∧ Keeps w w'
/-- The set of the numbers of a list. -/
def seenI (l : List Int) (x : Int) : Option Value := if l.contains x then some (.bool true) else none
theorem seenI_snoc (l : List Int) (a : Int) : seenI (l ++ [a]) a = some (.bool true) ∧ ∀ c, c ≠ a → seenI (l ++ [a]) c = seenI l c := by
  unfold seenI
  refine ⟨by simp, fun c hc => by simp [hc]⟩
theorem seenI_isSome (l : List Int) (x : Int) : (seenI l x).isSome = true ↔ x ∈ l := by
  unfold seenI
  by_cases h : x ∈ l <;> simp [h]

theorem elemInt : ElemOf Try.prog 35 3 (.int .i64 0) 1 8 := ⟨Try.underlying35, by kernel_rfl, rfl, by omega⟩
theorem IsDates.same {l : List Hol} {a : Hol} {xs : List Int} (h : IsDates l xs) {k : Nat} (hk : k < xs.length) (he : xs[k] = a.date) : IsDates (l ++ [a]) xs := by
  refine ⟨h.1, fun x => ?_⟩
  rw [h.2]
  constructor
  · rintro ⟨c, hc, rfl⟩; exact ⟨c, by simp [hc], rfl⟩
  · rintro ⟨c, hc, rfl⟩
    rcases List.mem_append.1 hc with hc | hc
    · exact ⟨c, hc, rfl⟩
    · simp at hc; subst hc
      exact (h.2 _).1 (he ▸ List.getElem_mem hk)
theorem asc_insert {xs : List Int} (h : Asc xs) {k : Nat} {d : Int} (hk : k ≤ xs.length) (h1 : ∀ j (hj : j < xs.length), j < k → xs[j] < d) (h2 : ∀ hk : k < xs.length, d < xs[k]) : Asc (xs.take k ++ [d] ++ xs.drop k) := by
  unfold Asc at *
  rw [List.append_assoc, List.pairwise_append]
  have h3 : ∀ x ∈ xs.take k, x < d := fun x hx => by
    obtain ⟨j, hj, rfl⟩ := List.getElem_of_mem hx
    rw [List.getElem_take]
    rw [List.length_take] at hj
    exact h1 j (by omega) (by omega)
  have h4 : ∀ x ∈ xs.drop k, d < x := fun x hx => by
    obtain ⟨j, hj, rfl⟩ := List.getElem_of_mem hx
    rw [List.getElem_drop]
    rw [List.length_drop] at hj
    have h5 := h2 (by omega)
    rcases Nat.eq_zero_or_pos j with rfl | hj0
    · simpa using h5
    · have := (List.pairwise_iff_getElem.1 h) k (k + j) (by omega) (by omega) (by omega)
      omega
  refine ⟨h.sublist (List.take_sublist _ _), ?_, fun a ha b hb => ?_⟩
  · rw [List.singleton_append, List.pairwise_cons]
    exact ⟨h4, h.sublist (List.drop_sublist _ _)⟩
  · rw [List.singleton_append, List.mem_cons] at hb
    rcases hb with rfl | hb
    · exact h3 a ha
    · have := h3 a ha; have := h4 b hb; omega
theorem mem_insert {xs : List Int} {k : Nat} {d x : Int} : x ∈ xs.take k ++ [d] ++ xs.drop k ↔ x = d ∨ x ∈ xs := by
  have : x ∈ xs ↔ x ∈ xs.take k ∨ x ∈ xs.drop k := by rw [← List.mem_append, List.take_append_drop]
  rw [this, List.mem_append, List.mem_append, List.mem_singleton]
  constructor
  · rintro ((h | h) | h); exact .inr (.inl h); exact .inl h; exact .inr (.inr h)
  · rintro (h | h | h); exact .inl (.inr h); exact .inl (.inl h); exact .inr h
theorem IsDates.insert {l : List Hol} {a : Hol} {xs : List Int} (h : IsDates l xs) {k : Nat} (hk : k ≤ xs.length) (h1 : ∀ j (hj : j < xs.length), j < k → xs[j] < a.date) (h2 : ∀ hk : k < xs.length, a.date < xs[k]) : IsDates (l ++ [a]) (xs.take k ++ [a.date] ++ xs.drop k) := by
  refine ⟨asc_insert h.1 hk h1 h2, fun x => ?_⟩
  rw [mem_insert, h.2]
  constructor
  · rintro (rfl | ⟨c, hc, rfl⟩)
    · exact ⟨a, by simp, rfl⟩
    · exact ⟨c, by simp [hc], rfl⟩
  · rintro ⟨c, hc, rfl⟩
    rcases List.mem_append.1 hc with hc | hc
    · exact .inr ⟨c, hc, rfl⟩
    · simp at hc; subst hc; exact .inl rfl

set_option maxRecDepth 100000 in
set_option maxHeartbeats 1000000 in
theorem hdates_any (ao : Option Addr) (l : List Hol) (cap b o : Nat) (w : World) (H : Hols w ao l cap b o) (hlen : l.length ≤ 1000) (hok : ∀ x ∈ l, I64 x.date) :
    Calls Try.prog 52 #[.slice ao l.length cap] w (DatesOut w l) := by
  have hcap := Sl.cap H
  have hle := Sl.le H
  have hmm := @run_makeMap Try.prog
  have HO := Lib.hid hok
  have HH := Lib.hid H
  clear hok H
  go_enter Try.func52, Try.ntmps52
  go_wp2_with fail
  go_loopw [9] (fun vi wr => ∃ k : Nat, k ≤ l.length ∧ vi = .int .i64 k ∧ Hid (Keeps w wr ∧ VMap intK wr w.heap.size k (seenI ((l.take k).map Hol.date)))) (fun vi _ => l.length - (intOf vi).toNat)
  case atStart => exact ⟨0, Nat.zero_le _, rfl, Lib.hid ⟨(Keeps.refl w).alloc _, VMap.made intK w⟩⟩
  case round =>
    obtain ⟨k, hk, rfl, HW⟩ := hrel
    by_cases hlt : k < l.length
    · have HLk := HH.out.keeps HW.out.1
      have hix := Sl.at HLk Try.underlying23 Try.sizeOf46 k hlt
      have c0 := HLk.cell Hol.len k hlt 0 _ rfl
      have c1 := HLk.cell Hol.len k hlt 1 _ rfl
      have c2 := HLk.cell Hol.len k hlt 2 _ rfl
      have c3 := HLk.cell Hol.len k hlt 3 _ rfl
      simp only [Nat.add_zero] at c0
      have hbl := World.block_lt_of_cell? wr _ c0
      have HOk := Lib.hid (HO.out _ (List.getElem_mem hlt))
      have HT : Hid ((l.take (k + 1)).map Hol.date = (l.take k).map Hol.date ++ [l[k].date]) := Lib.hid (by rw [take_snoc l k hlt, List.map_append]; rfl)
      clear HLk
      go_wp2_with (refine wpList_vstore (K := intK) rfl _ _ _ 91 rfl Try.underlying91 w.heap.size k rfl (HW.out.2.alloc _) (by unfold maxLen; omega) l[k].date HOk.out rfl (.bool true) rfl (seenI ((l.take (k + 1)).map Hol.date)) (by rw [HT.out]; exact (seenI_snoc _ _).1) (fun d _ hd => by rw [HT.out]; exact (seenI_snoc _ _).2 d hd) ?_; intro w3 hm3 hg3)
      have HW3 : Hid (Keeps w w3 ∧ VMap intK w3 w.heap.size (k + 1) (seenI ((l.take (k + 1)).map Hol.date))) := Lib.hid ⟨Below.grown (HW.out.1.alloc _) hg3 (by have := HW.out.1.size; simp; omega) (fun j hj => by cases hj; omega), hm3⟩
      clear hm3 hg3 HW
      go_wp2_with fail
      go_roundw
      case rel => exact ⟨k + 1, by omega, by go_num, HW3⟩
      case measure => simp [intOf]; omega
    · obtain rfl : k = l.length := by omega
      go_wp2_with (first | (go_at_call 61; refine (keysB_any _ _).mono ?_; rintro e w2 ⟨rfl, rfl⟩) | (go_at_call 60; refine (sortedB_any w.heap.size l.length _ _ _ (by go_simp) (HW.out.2.alloc _) (by omega)).mono ?_; rintro e w3 ⟨v, xs, rfl, hv, hks, hk3⟩))
      go_ret
      refine ⟨v, xs, rfl, hv, ⟨hks.1, fun x => ?_⟩, (HW.out.1.alloc _).trans hk3⟩
      rw [hks.2, seenI_isSome, List.take_length, List.mem_map]
      constructor
      · rintro ⟨_, h⟩; exact h
      · rintro ⟨a, ha, rfl⟩; exact ⟨HO.out a ha, a, ha, rfl⟩

set_option maxRecDepth 100000 in
set_option maxHeartbeats 4000000 in
theorem hrdates_any (ao2 : Option Addr) (l : List Hol) (cap2 b2 o2 : Nat) (w : World) (H : Hols w ao2 l cap2 b2 o2) (hlen : l.length ≤ 1000) :
    Calls Try.prog 40 #[.slice ao2 l.length cap2] w (DatesOut w l) := by
  have hcap := Sl.cap H
  have hle := Sl.le H
  have HH := Lib.hid H
  clear H
  go_enter Try.func40, Try.ntmps40
  go_wp2_with fail
  go_loopw [3, 4] (fun vo vi wr => ∃ (i : Nat) (xs : List Int), i ≤ l.length ∧ xs.length ≤ i ∧ vi = .int .i64 i ∧ Hid (IsDates (l.take i) xs) ∧ Hid (Keeps w wr ∧ IntL wr vo xs)) (fun _ vi _ => l.length - (intOf vi).toNat)
  case atStart => exact ⟨0, [], Nat.zero_le _, Nat.le_refl _, rfl, Lib.hid ⟨List.Pairwise.nil, by simp⟩, Lib.hid ⟨Keeps.refl w, none, 0, 0, 0, rfl, Sl.nil _ _⟩⟩
  case round =>
    obtain ⟨i, xs, hi, hxl, rfl, HD, HW⟩ := hrel
    obtain ⟨wa, rfl⟩ : ∃ wa : World, wa = wr := ⟨_, rfl⟩
    by_cases hlt : i < l.length
    · obtain ⟨ao, cap, b, o, hv, hs⟩ := HW.out.2
      have HSl := Lib.hid hs
      have hcx := hs.cap
      have hlx := hs.le
      subst hv
      have HLk := HH.out.keeps HW.out.1
      have hix := Sl.at HLk Try.underlying23 Try.sizeOf46 i hlt
      have c2 := HLk.cell Hol.len i hlt 2 _ rfl
      have HT := Lib.hid (take_snoc l i hlt)
      clear HLk hs
      go_wp2_with fail
      go_loopw [5] (fun vk wy => ∃ k q : Nat, k ≤ xs.length ∧ vk = .int .i64 k ∧ Hid (∀ j (hj : j < xs.length), j < k → xs[j] < l[i].date) ∧ wy = wa.drewN q) (fun vk _ => xs.length - (intOf vk).toNat)
      case atStart => exact ⟨0, 0, Nat.zero_le _, rfl, Lib.hid (fun j _ h => absurd h (Nat.not_lt_zero _)), rfl⟩
      case round =>
        obtain ⟨k, q, hk, rfl, HN, rfl⟩ := hrel
        by_cases hk1 : k < xs.length
        · have hix3 := HSl.out.at1 Try.underlying35 Try.sizeOf3 k hk1
          have d0 := HSl.out.int k hk1
          have hk0 : decide ((k : Int) < (xs.length : Int)) = true := decide_eq_true (by omega)
          have hke : ((k : Int) == (xs.length : Int)) = false := by simpa using (show (k : Int) ≠ xs.length by omega)
          by_cases hlt2 : xs[k] < l[i].date
          · have HN2 : Hid (∀ j (hj : j < xs.length), j < k + 1 → xs[j] < l[i].date) := Lib.hid (fun j hj h => by
              rcases Nat.lt_succ_iff_lt_or_eq.1 h with h | rfl
              · exact HN.out j hj h
              · exact hlt2)
            have e1 : decide (xs[k] < l[i].date) = true := decide_eq_true hlt2
            clear hlt2
            go_wp2_with fail
            go_quiet (fail)
            go_wp2_with fail
            go_roundw
            case rel => exact ⟨k + 1, _, by omega, by go_num, HN2, rfl⟩
            case measure => simp [intOf]; omega
          · have e1 : decide (xs[k] < l[i].date) = false := decide_eq_false hlt2
            by_cases he : xs[k] = l[i].date
            · have HD2 : Hid (IsDates (l.take (i + 1)) xs) := Lib.hid (by rw [HT.out]; exact HD.out.same hk1 he)
              have e2 : (xs[k] != l[i].date) = false := by simpa using he
              have HWX : Hid (∀ q, Keeps w (wa.drewN q) ∧ IntL (wa.drewN q) (.slice ao xs.length cap) xs) := Lib.hid (fun q => ⟨HW.out.1.drewN q, ⟨ao, cap, b, o, rfl, HSl.out.drewN q⟩⟩)
              clear he hlt2
              go_wp2_with fail
              go_quiet (fail)
              go_wp2_with fail
              go_quiet (fail)
              go_wp2_with fail
              go_roundw
              case rel => exact ⟨i + 1, xs, by omega, by omega, by go_num, HD2, Lib.hid (HWX.out _)⟩
              case measure => simp [intOf]; omega
            · have e2 : (xs[k] != l[i].date) = true := by simpa using he
              have HD2 : Hid (IsDates (l.take (i + 1)) (xs.take k ++ [l[i].date] ++ xs.drop k)) := Lib.hid (by rw [HT.out]; exact HD.out.insert (by omega) HN.out (fun _ => by omega))
              clear he hlt2
              go_wp2_with fail
              go_quiet (fail)
              go_wp2_with fail
              go_quiet (fail)
              go_wp2_with fail
              clear d0 hix3
              rename_i nq0
              obtain ⟨ao5, hcf, hs5⟩ := Sl.cutFrom HSl.out Try.underlying35 Try.sizeOf3 k hk
              have hct := run_cutTo Try.underlying35 Try.sizeOf3 ao xs.length cap k (by omega) hcx
              rw [Nat.mul_one] at hs5
              have HS5 := Lib.hid hs5
              have HS1 := Lib.hid (HSl.out.takeInt k hk)
              rw [List.length_take, Nat.min_eq_left hk] at HS1
              have HO1 : Hid (∀ u ∈ (xs.take k).map (Value.int .i64), u.oneCell' = true) := Lib.hid (ints_oneCell _ _)
              have HO2 : Hid (∀ u ∈ (xs.map (Value.int .i64)).drop k, u.oneCell' = true) := Lib.hid (fun u hu => ints_oneCell _ _ u (List.mem_of_mem_drop hu))
              have HLN : Hid ((xs.take k ++ [l[i].date] ++ xs.drop k).length = xs.length + 1) := Lib.hid (by rw [List.length_append, List.length_append, List.length_take, List.length_drop, List.length_singleton]; omega)
              clear hs5
              obtain ⟨wo, hwo⟩ : ∃ wo : World, ((wa.drewN q).drewN nq0).drewN nq = wo := ⟨_, rfl⟩
              have p2 : wo.cell? ⟨b2, o2 + i * 4 + 2, none⟩ = some (.int .i64 l[i].date) := by rw [← hwo]; exact c2
              have HKO : Hid (Keeps w wo) := Lib.hid (by rw [← hwo]; exact ((HW.out.1.drewN _).drewN _).drewN _)
              have HS1' : Hid (Sl wo 1 ao k cap b o ((xs.take k).map (.int .i64))) := Lib.hid (by rw [← hwo]; exact ((HS1.out.drewN _).drewN _).drewN _)
              have HS5' : Hid (Sl wo 1 ao5 (xs.length - k) (cap - k) b (o + k) ((xs.map (.int .i64)).drop k)) := Lib.hid (by rw [← hwo]; exact ((HS5.out.drewN _).drewN _).drewN _)
              rw [hwo]
              have hbp := World.block_lt_of_cell? _ _ p2
              clear hwo HS1 HS5 c2 HSl HW
              go_region_law (first | (refine step_all_raw elemInt (by rfl) (.tmp 46) (.tmp 49) (by rfl) _ 0 [] (by rfl) wo.heap.size (by first | exact own_emptyx (by simp) (by simp) | exact (own_emptyx (by simp) (by simp)).alloc _) (by first | (simp; done) | (simp; omega)) ao k cap b o ((xs.take k).map (.int .i64)) (by rfl) (by first | exact HS1'.out.keeps ((Keeps.refl wo).alloc _).drew | exact HS1'.out.keeps (((Keeps.refl wo).alloc _).alloc _).drew) HO1.out (by omega) (by omega) ?_; intro v1 w1 hown1 hgrow1 hat1; rw [Nat.zero_add, List.nil_append] at hown1; have hk1 : Keeps wo w1 := (by first | exact Below.grown ((Keeps.refl wo).alloc _).drew hgrow1 (by first | (simp; done) | (simp; omega)) (fun j hj => by simp [Act.eval, Value.ownBlock] at hj; omega) | exact Below.grown (((Keeps.refl wo).alloc _).alloc _).drew hgrow1 (by first | (simp; done) | (simp; omega)) (fun j hj => by simp [Act.eval, Value.ownBlock] at hj; omega)); have hz1 := hk1.size; have q2 := hk1.cell p2) | (refine step_one elemInt (by rfl) (.tmp 50) (.tmp 56) (by rfl) v1 k _ (by rfl) wo.heap.size (by first | exact hown1 | exact hown1.alloc _) (by first | omega | (simp; omega)) _ _ (.int .i64 l[i].date) (by rfl) (by first | exact hgrow1.cell (by go_simp) (by simp [Act.eval, Value.ownBlock]) | go_simp) (by rfl) (by omega) (by omega) ?_; intro v2 w2 hown2 hgrow2 hat2; have hk2 : Keeps wo w2 := (by first | exact Below.grown hk1 hgrow2 hk1.size (fun j hj => (hown1.lt j hj).1) | exact Below.grown (Keeps.alloc hk1 _) hgrow2 (by simp; omega) (fun j hj => (hown1.lt j hj).1)); have hz2 := hk2.size) | (refine step_all_raw elemInt (by rfl) (.tmp 57) (.tmp 60) (by rfl) v2 (k + 1) _ (by rfl) wo.heap.size hown2 hz2 ao5 (xs.length - k) (cap - k) b (o + k) ((xs.map (.int .i64)).drop k) (by rfl) (HS5'.out.keeps hk2) HO2.out (by omega) (by omega) ?_; intro v3 w3 hown3 hgrow3 hat3; have hk3 : Keeps wo w3 := Below.grown hk2 hgrow3 hk2.size (fun j hj => (hown2.lt j hj).1)))
              all_goals
                have HW3 : Hid (Keeps w w3 ∧ IntL w3 v3 (xs.take k ++ [l[i].date] ++ xs.drop k)) := Lib.hid ⟨HKO.out.trans hk3, IntL.own (by
                  have h := hown3
                  rw [show k + 1 + (xs.length - k) = xs.length + 1 from by omega] at h
                  rw [HLN.out, List.map_append, List.map_append, List.map_drop]; exact h)⟩
                clear hown1 hgrow1 hat1 hk1 hz1 q2 hown2 hgrow2 hat2 hk2 hz2 hown3 hgrow3 hat3 hk3
                go_wp2_with fail
                go_roundw
                case rel => exact ⟨i + 1, _, by omega, by rw [HLN.out]; omega, by go_num, HD2, HW3⟩
                case measure => simp [intOf]; omega
        · obtain rfl : k = xs.length := by omega
          have hk0 : decide ((xs.length : Int) < (xs.length : Int)) = false := decide_eq_false (by omega)
          have HD2 : Hid (IsDates (l.take (i + 1)) (xs.take xs.length ++ [l[i].date] ++ xs.drop xs.length)) := Lib.hid (by rw [HT.out]; exact HD.out.insert (by omega) HN.out (fun h => by omega))
          go_wp2_with fail
          go_quiet (fail)
          go_wp2_with fail
          go_quiet (fail)
          go_wp2_with fail
          rename_i nq0
          have hk := Nat.le_refl xs.length
          obtain ⟨ao5, hcf, hs5⟩ := Sl.cutFrom HSl.out Try.underlying35 Try.sizeOf3 xs.length (Nat.le_refl _)
          have hct := run_cutTo Try.underlying35 Try.sizeOf3 ao xs.length cap xs.length (by omega) hcx
          rw [Nat.mul_one, Nat.sub_self] at hs5
          simp only [Nat.sub_self] at hcf
          have HS5 := Lib.hid hs5
          have HS1 := Lib.hid (HSl.out.takeInt xs.length (Nat.le_refl _))
          rw [List.length_take, Nat.min_self] at HS1
          have HO1 : Hid (∀ u ∈ (xs.take xs.length).map (Value.int .i64), u.oneCell' = true) := Lib.hid (ints_oneCell _ _)
          have HO2 : Hid (∀ u ∈ (xs.map (Value.int .i64)).drop xs.length, u.oneCell' = true) := Lib.hid (fun u hu => ints_oneCell _ _ u (List.mem_of_mem_drop hu))
          have HLN : Hid ((xs.take xs.length ++ [l[i].date] ++ xs.drop xs.length).length = xs.length + 1) := Lib.hid (by rw [List.length_append, List.length_append, List.length_take, List.length_drop, List.length_singleton]; omega)
          clear hs5
          obtain ⟨wo, hwo⟩ : ∃ wo : World, ((wa.drewN q).drewN nq0).drewN nq = wo := ⟨_, rfl⟩
          have p2 : wo.cell? ⟨b2, o2 + i * 4 + 2, none⟩ = some (.int .i64 l[i].date) := by rw [← hwo]; exact c2
          have HKO : Hid (Keeps w wo) := Lib.hid (by rw [← hwo]; exact ((HW.out.1.drewN _).drewN _).drewN _)
          have HS1' : Hid (Sl wo 1 ao xs.length cap b o ((xs.take xs.length).map (.int .i64))) := Lib.hid (by rw [← hwo]; exact ((HS1.out.drewN _).drewN _).drewN _)
          have HS5' : Hid (Sl wo 1 ao5 0 (cap - xs.length) b (o + xs.length) ((xs.map (.int .i64)).drop xs.length)) := Lib.hid (by rw [← hwo]; exact ((HS5.out.drewN _).drewN _).drewN _)
          rw [hwo]
          have hbp := World.block_lt_of_cell? _ _ p2
          clear hwo HS1 HS5 c2 HSl HW
          go_region_law (first | (refine step_all_raw elemInt (by rfl) (.tmp 46) (.tmp 49) (by rfl) _ 0 [] (by rfl) wo.heap.size (by first | exact own_emptyx (by simp) (by simp) | exact (own_emptyx (by simp) (by simp)).alloc _) (by first | (simp; done) | (simp; omega)) ao xs.length cap b o ((xs.take xs.length).map (.int .i64)) (by rfl) (by first | exact HS1'.out.keeps ((Keeps.refl wo).alloc _).drew | exact HS1'.out.keeps (((Keeps.refl wo).alloc _).alloc _).drew) HO1.out (by omega) (by omega) ?_; intro v1 w1 hown1 hgrow1 hat1; rw [Nat.zero_add, List.nil_append] at hown1; have hk1 : Keeps wo w1 := (by first | exact Below.grown ((Keeps.refl wo).alloc _).drew hgrow1 (by first | (simp; done) | (simp; omega)) (fun j hj => by simp [Act.eval, Value.ownBlock] at hj; omega) | exact Below.grown (((Keeps.refl wo).alloc _).alloc _).drew hgrow1 (by first | (simp; done) | (simp; omega)) (fun j hj => by simp [Act.eval, Value.ownBlock] at hj; omega)); have hz1 := hk1.size; have q2 := hk1.cell p2) | (refine step_one elemInt (by rfl) (.tmp 50) (.tmp 56) (by rfl) v1 xs.length _ (by rfl) wo.heap.size (by first | exact hown1 | exact hown1.alloc _) (by first | omega | (simp; omega)) _ _ (.int .i64 l[i].date) (by rfl) (by first | exact hgrow1.cell (by go_simp) (by simp [Act.eval, Value.ownBlock]) | go_simp) (by rfl) (by omega) (by omega) ?_; intro v2 w2 hown2 hgrow2 hat2; have hk2 : Keeps wo w2 := (by first | exact Below.grown hk1 hgrow2 hk1.size (fun j hj => (hown1.lt j hj).1) | exact Below.grown (Keeps.alloc hk1 _) hgrow2 (by simp; omega) (fun j hj => (hown1.lt j hj).1)); have hz2 := hk2.size) | (refine step_all_raw elemInt (by rfl) (.tmp 57) (.tmp 60) (by rfl) v2 (xs.length + 1) _ (by rfl) wo.heap.size hown2 hz2 ao5 0 (cap - xs.length) b (o + xs.length) ((xs.map (.int .i64)).drop xs.length) (by rfl) (HS5'.out.keeps hk2) HO2.out (by omega) (by omega) ?_; intro v3 w3 hown3 hgrow3 hat3; have hk3 : Keeps wo w3 := Below.grown hk2 hgrow3 hk2.size (fun j hj => (hown2.lt j hj).1)))
          all_goals
            have HW3 : Hid (Keeps w w3 ∧ IntL w3 v3 (xs.take xs.length ++ [l[i].date] ++ xs.drop xs.length)) := Lib.hid ⟨HKO.out.trans hk3, IntL.own (by
              have h : w3.ownsRow wo.heap.size 3 1 v3 (xs.length + 1) _ := hown3
              rw [HLN.out, List.map_append, List.map_append, List.map_drop]; exact h)⟩
            clear hown1 hgrow1 hat1 hk1 hz1 q2 hown2 hgrow2 hat2 hk2 hz2 hown3 hgrow3 hat3 hk3
            go_wp2_with fail
            go_roundw
            case rel => exact ⟨i + 1, _, by omega, by rw [HLN.out]; omega, by go_num, HD2, HW3⟩
            case measure => simp [intOf]; omega
    · obtain rfl : i = l.length := by omega
      have HQ := Lib.hid HD.out
      rw [List.take_length] at HQ
      go_wp2_with fail
      go_ret
      exact ⟨_, xs, rfl, HW.out.2, HQ.out, HW.out.1⟩
end Go.Proofs.Ytkpdimbblcmnaaa
