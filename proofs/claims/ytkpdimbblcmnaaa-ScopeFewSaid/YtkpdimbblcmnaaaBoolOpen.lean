/- A slice of bools that came in, opened. -/
import Derived.Test.YtkpdimbblcmnaaaRowB
import Derived.Deep.Grids
namespace Go.Proofs.Ytkpdimbblcmnaaa
open Go.ChangeShapes Go.WideShapes Go.Deep Go.RowKit
theorem open_boolS {H : Type} {enc : TypeId × Value → H} {P : Program} {W : World} {base : Nat} {hd : Bool} {t e : TypeId} {v : Value} {d : DataW H} {p : List MemPlace} (ht : P.underlying t = some (.slice e)) (he : P.underlying e = some .bool) (hc : P.cellsOf e = 1)
    (hok : Value.okWide P W .any base t v) (h : DataW.Trod enc P W 0 (fun _ => true) hd t v d p) :
    ∃ (xs : List Bool) (ao : Option Addr) (cap b o : Nat), v = .slice ao xs.length cap ∧ Sl W 1 ao xs.length cap b o (xs.map .bool) := by
  obtain ⟨a, len, cap, rfl⟩ := okWide_slice ht hok
  obtain ⟨fuel, hf⟩ := h
  rcases open_bools ht he hc hf with ⟨hcs, _⟩ | ⟨x, l, c, B, hcs, _, hl, hm, _, hcell⟩
  · simp [Value.cells] at hcs
    obtain ⟨rfl, rfl, rfl⟩ := hcs
    exact ⟨[], none, 0, 0, 0, rfl, Sl.nil _ _⟩
  · simp [Value.cells] at hcs
    obtain ⟨rfl, rfl, rfl⟩ := hcs
    have hm' : cap ≤ 9223372036854775807 := by unfold maxLen at hm; exact hm
    have hlen : ((List.range len).map B).length = len := by simp
    rcases Nat.eq_zero_or_pos len with h0 | h0
    · subst h0
      exact ⟨[], some x, cap, 0, 0, rfl, ⟨by simp, Nat.zero_le _, (fun h => by cases h), hm', fun h => absurd h (Nat.lt_irrefl _), fun j u hu => by simp at hu⟩⟩
    · obtain ⟨b, off, spot⟩ := x
      have hspot : spot = none := by simpa [Addr.add] using World.cell?_spot (hcell 0 (by omega))
      subst hspot
      refine ⟨(List.range len).map B, some ⟨b, off, none⟩, cap, b, off, by rw [hlen], ⟨by simp, by rw [hlen]; exact hl, (fun h => by cases h), hm', fun _ => rfl, fun j u hu => ?_⟩⟩
      have hj : j < len := by
        have := (List.getElem?_eq_some_iff.1 hu).1
        simpa using this
      have := hcell j (by omega)
      rw [Addr.add_lit] at this
      rw [this]
      simpa [hj] using hu
end Go.Proofs.Ytkpdimbblcmnaaa
