/- The rows: what the statements' arguments read as, in the walks' words. -/
import Derived.Test.YtfddhmhagijodaaRows
import Derived.Test.YtfddhmhagijodaaApp2
import Derived.WalkKit
import Derived.ProofKit
import Derived.OpenShut
import Derived.ShutString
import Derived.ChangeOld
import Derived.Below
import Derived.Lib.SmallJoins
namespace Go.Proofs.Ytfddhmhagijodaa
open Go.ChangeShapes Go.WideShapes Go.ChangeAt Go.RowKit
theorem own : ownKnob Try.prog.godebug = none := by kernel_rfl
theorem laidOut : laidOutB Try.prog = true := by kernel_rfl

/-- A slice of integers of a kind that came in. -/
theorem open_intS {H : Type} {enc : TypeId × Value → H} {P : Program} {W : World} {base : Nat} {hd : Bool} {t e : TypeId} {k : IntKind} {v : Value} {d : DataW H} {p : List MemPlace} (ht : P.underlying t = some (.slice e)) (he : P.underlying e = some (.int k)) (hc : P.cellsOf e = 1)
    (hok : Value.okWide P W .any base t v) (h : DataW.Trod enc P W 0 (fun _ => true) hd t v d p) :
    ∃ (xs : List Int) (ao : Option Addr) (cap b o : Nat), v = .slice ao xs.length cap ∧ Sl W 1 ao xs.length cap b o (xs.map (.int k)) ∧ ∀ x ∈ xs, (Lit.int k x).wf = true := by
  obtain ⟨a, len, cap, rfl⟩ := okWide_slice ht hok
  obtain ⟨fuel, hf⟩ := h
  rcases open_ints ht he hc hf with ⟨hcs, _⟩ | ⟨x, l, c, zs, hcs, _, hl, hm, hz, _, hcell, hwz⟩
  · simp [Value.cells] at hcs
    obtain ⟨rfl, rfl, rfl⟩ := hcs
    exact ⟨[], none, 0, 0, 0, rfl, Sl.nil _ _, by simp⟩
  · simp [Value.cells] at hcs
    obtain ⟨rfl, rfl, rfl⟩ := hcs
    have hz' : zs.length = cap := by simpa using hz
    have hlen : (zs.take len).length = len := by rw [List.length_take]; omega
    have hwf : ∀ x ∈ zs.take len, (Lit.int k x).wf = true := fun x hx => hwz x (List.mem_of_mem_take hx)
    have hm' : cap ≤ 9223372036854775807 := by unfold maxLen at hm; exact hm
    rcases Nat.eq_zero_or_pos zs.length with h0 | h0
    · have hl0 : len = 0 := by omega
      subst hl0
      refine ⟨[], some x, cap, 0, 0, rfl, ⟨by simp, Nat.zero_le _, (fun h => by cases h), hm', fun h => absurd h (Nat.lt_irrefl _), fun j u hu => by simp at hu⟩, by simp⟩
    · obtain ⟨b, off, rfl, hc2⟩ := ints_at hcell h0
      refine ⟨zs.take len, _, cap, b, off, by rw [hlen], ⟨by simp, by rw [hlen]; exact hl, (fun h => by cases h), hm', fun _ => rfl, fun j u hu => ?_⟩, hwf⟩
      have hj : j < len := by
        have := (List.getElem?_eq_some_iff.1 hu).1
        simp only [List.length_map, hlen] at this
        exact this
      rw [hc2 j (by omega)]
      rw [List.getElem?_map, List.getElem?_take, if_pos hj, List.getElem?_eq_getElem (by omega)] at hu
      rw [List.getD_eq_getElem?_getD, List.getElem?_eq_getElem (by omega)]
      exact hu
end Go.Proofs.Ytfddhmhagijodaa
