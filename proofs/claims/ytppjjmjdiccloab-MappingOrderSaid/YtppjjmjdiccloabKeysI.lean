/- The keys of a map from ints to ints, in order. -/
import Derived.Test.YtppjjmjdiccloabKeys
namespace Go.Proofs.Ytppjjmjdiccloab
open Go.RowKit Go.Maps
theorem sortedI_any (b n Bm : Nat) (f : Int → Option Value) (w : World) (hm : w.cell? ⟨Bm, 0, none⟩ = some (.map (some b))) (h : VMap intK w b n f) (hn : n ≤ 1000000) :
    Calls Try.prog 31 #[.func (.func 44) #[] #[.pointer (some ⟨Bm, 0, none⟩)]] w (OutK w f) := by
  obtain ⟨D, ho, hsz, hnd, hmem⟩ := h.keys
  refine (Try.sortedKeys34 b n Bm D hold w hm ho (by unfold maxLen; omega) (by omega)).mono fun e w' h => ?_
  obtain ⟨v, ss, rfl, hp, hrow, _, hb⟩ := h
  refine ⟨v, _, rfl, ?_, sorted_keys hnd hmem hp, hb⟩
  have hl : (ss.mergeSort (fun x y => decide (x ≤ y))).length = ss.length := List.length_mergeSort _
  exact IntL.own (by rw [hl]; exact hrow)
theorem keysI_any (mb : Option Nat) (w : World) : Calls Try.prog 34 #[.map mb] w fun e w' => e = .returned (.func (.func 44) #[] #[.pointer (some ⟨w.heap.size, 0, none⟩)]) ∧ w.alloc (.cells #[.map mb] 66) = w' :=
  (Try.mapKeys34 mb w).mono fun _ _ h => ⟨h.1, h.2.symm⟩
end Go.Proofs.Ytppjjmjdiccloab
