/- mapping.Dates: the walk. -/
import Derived.Test.YtppjjmjdiccloabKeys
import Derived.Test.YtppjjmjdiccloabAtW
namespace Go.Proofs.Ytppjjmjdiccloab
open Go.RowKit
set_option linter.unusedSimpArgs false

/-- The dates of links: in order, none twice. -/
def IsDates (l : List Lnk) (xs : List Int) : Prop := Asc xs ∧ ∀ x, x ∈ xs ↔ ∃ a ∈ l, a.since = x
theorem IsDates.eq {l : List Lnk} {xs ys : List Int} (h : IsDates l xs) (h2 : IsDates l ys) : xs = ys := h.1.eq h2.1 fun x => (h.2 x).trans (h2.2 x).symm
def DatesOut (w : World) (l : List Lnk) (e : Ending) (w' : World) : Prop := ∃ v xs, e = .returned v ∧ IntL w' v xs ∧ IsDates l xs ∧ Keeps w w'
/-- The set of the numbers of a list. -/
def seenI (l : List Int) (x : Int) : Option Value := if l.contains x then some (.bool true) else none
theorem seenI_snoc (l : List Int) (a : Int) : seenI (l ++ [a]) a = some (.bool true) ∧ ∀ c, c ≠ a → seenI (l ++ [a]) c = seenI l c := by
  unfold seenI
  refine ⟨by simp, fun c hc => by simp [hc]⟩
theorem seenI_isSome (l : List Int) (x : Int) : (seenI l x).isSome = true ↔ x ∈ l := by
  unfold seenI
  by_cases h : x ∈ l <;> simp [h]

set_option maxRecDepth 100000 in
set_option maxHeartbeats 1000000 in
theorem dates_any (en : Ent) (v : Value) (w : World) (HE : EntV w v en) (hlen : en.links.length ≤ 1000) (hok : ∀ x ∈ en.links, I64 x.since) :
    Calls Try.prog 16 #[v] w (DatesOut w en.links) := by
  obtain ⟨cv, lv, rfl, ⟨aoC, capC, bC, oC, rfl, HC⟩, ⟨aoL, capL, bL, oL, rfl, HL⟩⟩ := HE
  have hcap := Sl.cap HL
  have hle := Sl.le HL
  have hmm := @run_makeMap Try.prog
  have HO := Lib.hid hok
  clear hok
  go_enter Try.func16, Try.ntmps16
  go_wp2_with fail
  go_loopw [10] (fun vi wr => ∃ k : Nat, k ≤ en.links.length ∧ vi = .int .i64 k ∧ Hid (Keeps w wr ∧ VMap intK wr (w.heap.size + 1) k (seenI ((en.links.take k).map Lnk.since)))) (fun vi _ => en.links.length - (intOf vi).toNat)
  case atStart => exact ⟨0, Nat.zero_le _, rfl, Lib.hid ⟨((Keeps.refl w).alloc _).alloc _, by have := VMap.made intK (w.alloc (.cells #[.string en.name, .string en.cur, .slice aoC en.chart.length capC, .slice aoL en.links.length capL, .bool en.joint] 25)); rw [World.size_alloc] at this; exact this⟩⟩
  case round =>
    obtain ⟨k, hk, rfl, HW⟩ := hrel
    by_cases hlt : k < en.links.length
    · have HLk := HL.keeps HW.out.1
      have hix := Sl.at HLk Try.underlying23 Try.sizeOf39 k hlt
      have c0 := HLk.cell Lnk.len k hlt 0 _ rfl
      have c1 := HLk.cell Lnk.len k hlt 1 _ rfl
      have c2 := HLk.cell Lnk.len k hlt 2 _ rfl
      simp only [Nat.add_zero] at c0
      have hbl := World.block_lt_of_cell? wr _ c0
      have HOk := Lib.hid (HO.out _ (List.getElem_mem hlt))
      have HT : Hid ((en.links.take (k + 1)).map Lnk.since = (en.links.take k).map Lnk.since ++ [en.links[k].since]) := Lib.hid (by rw [take_snoc en.links k hlt, List.map_append]; rfl)
      clear HLk
      go_wp2_with (refine wpList_vstore (K := intK) rfl _ _ _ 59 rfl Try.underlying59 (w.heap.size + 1) k rfl (HW.out.2.alloc _) (by unfold maxLen; omega) en.links[k].since HOk.out rfl (.bool true) rfl (seenI ((en.links.take (k + 1)).map Lnk.since)) (by rw [HT.out]; exact (seenI_snoc _ _).1) (fun d _ hd => by rw [HT.out]; exact (seenI_snoc _ _).2 d hd) ?_; intro w3 hm3 hg3)
      have HW3 : Hid (Keeps w w3 ∧ VMap intK w3 (w.heap.size + 1) (k + 1) (seenI ((en.links.take (k + 1)).map Lnk.since))) := Lib.hid ⟨Below.grown (HW.out.1.alloc _) hg3 (by have := HW.out.1.size; simp; omega) (fun j hj => by cases hj; omega), hm3⟩
      clear hm3 hg3 HW
      go_wp2_with fail
      go_roundw
      case rel => exact ⟨k + 1, by omega, by go_num, HW3⟩
      case measure => simp [intOf]; omega
    · obtain rfl : k = en.links.length := by omega
      go_wp2_with (first | (go_at_call 32; refine (keysB_any _ _).mono ?_; rintro e w2 ⟨rfl, rfl⟩) | (go_at_call 31; refine (sortedB_any (w.heap.size + 1) en.links.length _ _ _ (by go_simp) (HW.out.2.alloc _) (by omega)).mono ?_; rintro e w3 ⟨v, xs, rfl, hv, hks, hk3⟩))
      go_ret
      refine ⟨v, xs, rfl, hv, ⟨hks.1, fun x => ?_⟩, (HW.out.1.alloc _).trans hk3⟩
      rw [hks.2, seenI_isSome, List.take_length, List.mem_map]
      constructor
      · rintro ⟨_, h⟩; exact h
      · rintro ⟨a, ha, rfl⟩; exact ⟨HO.out a ha, a, ha, rfl⟩
end Go.Proofs.Ytppjjmjdiccloab
