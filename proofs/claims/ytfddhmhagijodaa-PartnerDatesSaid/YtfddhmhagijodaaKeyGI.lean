/- The keys of a map from ints to ints, in order. -/
import Derived.Test.YtfddhmhagijodaaKeyG
namespace Go.Proofs.Ytfddhmhagijodaa
open Go.RowKit Go.Maps
theorem sortedI_any (b n Bm : Nat) (f : Int → Option Value) (w : World) (hm : w.cell? ⟨Bm, 0, none⟩ = some (.map (some b))) (h : VMap intK w b n f) (hn : n ≤ 1000000) :
    Calls Try.prog 29 #[.func (.func 49) #[] #[.pointer (some ⟨Bm, 0, none⟩)]] w (OutK w f) := by
  obtain ⟨D, ho, hsz, hnd, hmem⟩ := h.keys
  refine (Try.sortedKeys30 b n Bm D hold w hm ho (by unfold maxLen; omega) (by omega)).mono fun e w' h => ?_
  obtain ⟨v, ss, rfl, hp, hrow, _, hb⟩ := h
  refine ⟨v, _, rfl, ?_, sorted_keys hnd hmem hp, hb⟩
  have hl : (ss.mergeSort (fun x y => decide (x ≤ y))).length = ss.length := List.length_mergeSort _
  exact IntL.own (by rw [hl]; exact hrow)
/-- The same, with how many there are. -/
def OutKn (w : World) (n : Nat) (f : Int → Option Value) (e : Ending) (w' : World) : Prop := ∃ v xs, e = .returned v ∧ IntL w' v xs ∧ KeysAre f xs ∧ Keeps w w' ∧ xs.length ≤ n
theorem sortedIn_any (b n Bm : Nat) (f : Int → Option Value) (w : World) (hm : w.cell? ⟨Bm, 0, none⟩ = some (.map (some b))) (h : VMap intK w b n f) (hn : n ≤ 1000000) :
    Calls Try.prog 29 #[.func (.func 49) #[] #[.pointer (some ⟨Bm, 0, none⟩)]] w (OutKn w n f) := by
  obtain ⟨D, ho, hsz, hnd, hmem⟩ := h.keys
  refine (Try.sortedKeys30 b n Bm D hold w hm ho (by unfold maxLen; omega) (by omega)).mono fun e w' h => ?_
  obtain ⟨v, ss, rfl, hp, hrow, _, hb⟩ := h
  have hl : (ss.mergeSort (fun x y => decide (x ≤ y))).length = ss.length := List.length_mergeSort _
  refine ⟨v, _, rfl, ?_, sorted_keys hnd hmem hp, hb, ?_⟩
  · exact IntL.own (by rw [hl]; exact hrow)
  · rw [hl, hp.length_eq]
    obtain ⟨es, clock, _, _, hs, rfl⟩ := ho
    show ((((es.toList.map _).foldr DataW.insert [])).map _).length ≤ n
    rw [List.length_map, length_sorted]
    simpa using hs
theorem keysI_any (mb : Option Nat) (w : World) : Calls Try.prog 30 #[.map mb] w fun e w' => e = .returned (.func (.func 49) #[] #[.pointer (some ⟨w.heap.size, 0, none⟩)]) ∧ w.alloc (.cells #[.map mb] 71) = w' :=
  (Try.mapKeys30 mb w).mono fun _ _ h => ⟨h.1, h.2.symm⟩
end Go.Proofs.Ytfddhmhagijodaa
