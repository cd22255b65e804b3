/- Holdings: their element, the index of a key: the plain part. -/
import Derived.Test.YtkpdimbblcmnaaaHolRVal
import Derived.Test.YtkpdimbblcmnaaaApp2
namespace Go.Proofs.Ytkpdimbblcmnaaa
open Go.RowKit
set_option linter.unusedSimpArgs false
set_option linter.unusedVariables false

theorem elemHol : ElemOf Try.prog 23 46 (.agg #[.int .i64 0, .int .i64 0, .int .i64 0, .int .i64 0]) 4 32 := ⟨Try.underlying23, by kernel_rfl, rfl, by omega⟩
theorem ones_hol (l : List Hol) : ∀ u ∈ l.flatMap Hol.cells, u.oneCell' = true := fun u hu => by
  obtain ⟨a, _, hu⟩ := List.mem_flatMap.1 hu
  simp [Hol.cells] at hu
  rcases hu with rfl | rfl | rfl | rfl <;> rfl
/-- The result owns a copy. -/
def OwnH (w : World) (l : List Hol) (v : Value) (w' : World) : Prop := w'.ownsRow w.heap.size 46 4 v l.length (l.flatMap Hol.cells) ∧ Keeps w w'
/-- The index of the first one with the key of h, or -1. -/
def idxH (l : List Hol) (h : Hol) : Option Nat := l.findIdx? (fun x => sameH x h)
def idxV (o : Option Nat) : Int := match o with | none => -1 | some i => (i : Int)
theorem idxH_none {l : List Hol} {h : Hol} (hn : ∀ i (hi : i < l.length), sameH l[i] h = false) : idxH l h = none := by
  unfold idxH
  rw [List.findIdx?_eq_none_iff]
  intro x hx
  obtain ⟨i, hi, rfl⟩ := List.getElem_of_mem hx
  exact hn i hi
theorem idxH_some {l : List Hol} {h : Hol} {k : Nat} (hk : k < l.length) (hn : ∀ i (hi : i < l.length), i < k → sameH l[i] h = false) (hs : sameH l[k] h = true) : idxH l h = some k := by
  unfold idxH
  rw [List.findIdx?_eq_some_iff_getElem]
  exact ⟨hk, hs, fun j hj => by rw [hn j (by omega) hj]; simp⟩
end Go.Proofs.Ytkpdimbblcmnaaa
