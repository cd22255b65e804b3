/- holding.Dates once more: the slice that it returns is its own. The walk. -/
import Derived.Test.YtkpdimbblcmnaaaHolDates
namespace Go.Proofs.Ytkpdimbblcmnaaa
open Go.RowKit
set_option linter.unusedSimpArgs false
set_option linter.unusedVariables false

/-- A slice of ints of its own. -/
def OutKO (w : World) (f : Int → Option Value) (e : Ending) (w' : World) : Prop := ∃ v xs, e = .returned v ∧ w'.ownsRow w.heap.size 3 1 v xs.length (xs.map (.int .i64)) ∧ KeysAre f xs ∧ Keeps w w'
theorem sortedBO_any (b n Bm : Nat) (f : Int → Option Value) (w : World) (hm : w.cell? ⟨Bm, 0, none⟩ = some (.map (some b))) (h : VMap intK w b n f) (hn : n ≤ 1000000) :
    Calls Try.prog 60 #[.func (.func 66) #[] #[.pointer (some ⟨Bm, 0, none⟩)]] w (OutKO w f) := by
  obtain ⟨D, ho, hsz, hnd, hmem⟩ := h.keys
  refine (Try.sortedKeys61 b n Bm D hold w hm ho (by unfold maxLen; omega) (by omega)).mono fun e w' h => ?_
  obtain ⟨v, ss, rfl, hp, hrow, _, hb⟩ := h
  refine ⟨v, _, rfl, ?_, sorted_keys hnd hmem hp, hb⟩
  have hl : (ss.mergeSort (fun x y => decide (x ≤ y))).length = ss.length := List.length_mergeSort _
  rw [hl]; exact hrow
theorem ownsRow_le {w : World} {base base' size n e : Nat} {v : Value} {xs : List Value} (h : w.ownsRow base e size v n xs) (hb : base' ≤ base) : w.ownsRow base' e size v n xs := by
  refine ⟨h.1, ?_⟩
  rcases h.2 with hn | ⟨g, cap, cur, hv, hbg, rest⟩
  · exact .inl hn
  · exact .inr ⟨g, cap, cur, hv, Nat.le_trans hb hbg, rest⟩
/-- The dates, in a slice of the call's own. -/
def DatesOwn (w : World) (l : List Hol) (e : Ending) (w' : World) : Prop := ∃ v xs, e = .returned v ∧ w'.ownsRow w.heap.size 3 1 v xs.length (xs.map (.int .i64)) ∧ IsDates l xs ∧ Keeps w w'

set_option maxRecDepth 100000 in
set_option maxHeartbeats 1000000 in
theorem hdatesO_any (ao : Option Addr) (l : List Hol) (cap b o : Nat) (w : World) (H : Hols w ao l cap b o) (hlen : l.length ≤ 1000) (hok : ∀ x ∈ l, I64 x.date) :
    Calls Try.prog 52 #[.slice ao l.length cap] w (DatesOwn w l) := by
  have hcap := Sl.cap H
  have hle := Sl.le H
  have hmm := @run_makeMap Try.prog
  have HO := Lib.hid hok
  have HH := Lib.hid H
  clear hok H
  go_enter Try.func52, Try.ntmps52
  go_wp2_with fail
  go_loopw [9] (fun vi wr => ∃ k : Nat, k ≤ l.length ∧ vi = .int .i64 k ∧ Hid (Keeps w wr ∧ VMap intK wr w.heap.size k (seenI ((l.take k).map Hol.date)))) (fun vi _ => l.length - (intOf vi).toNat)
  case atStart => exact ⟨0, Nat.zero_le _, rfl, Lib.hid ⟨(Keeps.refl w).alloc _, VMap.made intK w⟩⟩
  case round =>
    obtain ⟨k, hk, rfl, HW⟩ := hrel
    by_cases hlt : k < l.length
    · have HLk := HH.out.keeps HW.out.1
      have hix := Sl.at HLk Try.underlying23 Try.sizeOf46 k hlt
      have c0 := HLk.cell Hol.len k hlt 0 _ rfl
      have c1 := HLk.cell Hol.len k hlt 1 _ rfl
      have c2 := HLk.cell Hol.len k hlt 2 _ rfl
      have c3 := HLk.cell Hol.len k hlt 3 _ rfl
      simp only [Nat.add_zero] at c0
      have hbl := World.block_lt_of_cell? wr _ c0
      have HOk := Lib.hid (HO.out _ (List.getElem_mem hlt))
      have HT : Hid ((l.take (k + 1)).map Hol.date = (l.take k).map Hol.date ++ [l[k].date]) := Lib.hid (by rw [take_snoc l k hlt, List.map_append]; rfl)
      clear HLk
      go_wp2_with (refine wpList_vstore (K := intK) rfl _ _ _ 91 rfl Try.underlying91 w.heap.size k rfl (HW.out.2.alloc _) (by unfold maxLen; omega) l[k].date HOk.out rfl (.bool true) rfl (seenI ((l.take (k + 1)).map Hol.date)) (by rw [HT.out]; exact (seenI_snoc _ _).1) (fun d _ hd => by rw [HT.out]; exact (seenI_snoc _ _).2 d hd) ?_; intro w3 hm3 hg3)
      have HW3 : Hid (Keeps w w3 ∧ VMap intK w3 w.heap.size (k + 1) (seenI ((l.take (k + 1)).map Hol.date))) := Lib.hid ⟨Below.grown (HW.out.1.alloc _) hg3 (by have := HW.out.1.size; simp; omega) (fun j hj => by cases hj; omega), hm3⟩
      clear hm3 hg3 HW
      go_wp2_with fail
      go_roundw
      case rel => exact ⟨k + 1, by omega, by go_num, HW3⟩
      case measure => simp [intOf]; omega
    · obtain rfl : k = l.length := by omega
      go_wp2_with (first | (go_at_call 61; refine (keysB_any _ _).mono ?_; rintro e w2 ⟨rfl, rfl⟩) | (go_at_call 60; refine (sortedBO_any w.heap.size l.length _ _ _ (by go_simp) (HW.out.2.alloc _) (by omega)).mono ?_; rintro e w3 ⟨v, xs, rfl, hv, hks, hk3⟩))
      go_ret
      refine ⟨v, xs, rfl, ownsRow_le hv (by have := HW.out.1.size; simp; omega), ⟨hks.1, fun x => ?_⟩, (HW.out.1.alloc _).trans hk3⟩
      rw [hks.2, seenI_isSome, List.take_length, List.mem_map]
      constructor
      · rintro ⟨_, h⟩; exact h
      · rintro ⟨a, ha, rfl⟩; exact ⟨HO.out a ha, a, ha, rfl⟩
end Go.Proofs.Ytkpdimbblcmnaaa
