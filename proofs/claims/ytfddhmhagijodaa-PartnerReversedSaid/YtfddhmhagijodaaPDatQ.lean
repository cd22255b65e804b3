/- Books that a law builds in a box: entries appended in a cell of it. No program is walked. -/
import Derived.Test.YtfddhmhagijodaaLawPNet
import Derived.Test.YtfddhmhagijodaaPOfW
namespace Go.Proofs.Ytfddhmhagijodaa
open Go.RowKit
set_option linter.unusedSimpArgs false
set_option linter.unusedVariables false

theorem elemJV : ElemOf Try.prog 30 50 (.agg #[.int .i64 0, .int .i64 0, .int .i64 0, .int .i64 0, .int .i64 0, .string ⟨#[]⟩, .slice none 0 0]) 7 80 := ⟨Try.underlying30, by kernel_rfl, rfl, by omega⟩
theorem own_otherP {w : World} {base e size n : Nat} {v : Value} {xs : List Value} (h : w.ownsRow base e size v n xs) {p : Addr} (hp : p.block < base) (u : Value) : (w.setCell p u).ownsRow base e size v n xs := by
  refine ⟨h.1, ?_⟩
  rcases h.2 with hn | ⟨g, cap, cur, hv, hbg, hg, rest⟩
  · exact .inl hn
  · exact .inr ⟨g, cap, cur, hv, hbg, (Below.heap_setCell w p u g (by omega)).trans hg, rest⟩
theorem range_set {w : World} {b i : Nat} {cs : List Value} (h : w.rangeAt b 0 cs) (hi : i < cs.length) (v : Value) : (w.setCell ⟨b, i, none⟩ v).rangeAt b 0 (cs.set i v) := fun j u hj => by
  rw [Nat.zero_add]
  have hc : ∀ k x, cs[k]? = some x → w.cell? ⟨b, k, none⟩ = some x := fun k x hx => by have := h k x hx; rwa [Nat.zero_add] at this
  by_cases e : i = j
  · subst e
    rw [List.getElem?_set_self hi] at hj
    cases hj
    exact World.cell?_setCell_same _ _ _ (hc i _ (List.getElem?_eq_getElem hi))
  · rw [List.getElem?_set_ne e] at hj
    rw [World.cell?_setCell_other _ _ _ _ (by simp [e])]
    exact hc j u hj
theorem there_below {w w' : World} {B b o n : Nat} (h : w.there b o n) (hb : b < B) (k : Below B w w') : w'.there b o n := fun j hj => by
  obtain ⟨h1, h2⟩ := h j hj
  exact ⟨by rw [k.cell (p := ⟨b, o + j, none⟩) hb]; exact h1, by rw [k.frozen (p := ⟨b, o + j, none⟩) hb]; exact h2⟩
theorem range_below {w w' : World} {B b o : Nat} {cs : List Value} (h : w.rangeAt b o cs) (hb : b < B) (k : Below B w w') : w'.rangeAt b o cs := fun j u hj => (k.cell (p := ⟨b, o + j, none⟩) hb).trans (h j u hj)
/-- Books in box N, of which the entries xs are the call's own. -/
def RBx (W : World) (N : Nat) (v : Value) (xs : List JV) : Prop := W.ownsRow (N + 1) 50 7 v xs.length (xs.flatMap JV.cells) ∧ W.rangeAt N 0 (bkC v (.slice none 0 0)) ∧ W.there N 0 27
theorem RBx.keeps {W W' : World} {N : Nat} {v : Value} {xs : List JV} (h : RBx W N v xs) (k : Keeps W W') : RBx W' N v xs := ⟨own_keepsP h.1 k, range_keeps h.2.1 k, there_keeps h.2.2 k⟩
/-- The box, new. -/
theorem RBx.new (W : World) (ty : TypeId) : RBx (W.alloc (.cells (bkC (.slice none 0 0) (.slice none 0 0)).toArray ty)) W.heap.size (.slice none 0 0) [] :=
  ⟨World.ownsRow_nil _ _ _ _, box_range W _ ty, there_newP W ty (bkC (.slice none 0 0) (.slice none 0 0))⟩
/-- One entry more. -/
theorem RBx.store {W W' : World} {N : Nat} {v v' : Value} {xs : List JV} {y : JV} (h : RBx W N v xs) (hb : Below (N + 1) W W') (ho : W'.ownsRow (N + 1) 50 7 v' (xs.length + 1) (xs.flatMap JV.cells ++ y.cells)) : RBx (W'.setCell ⟨N, 21, none⟩ v') N v' (xs ++ [y]) := by
  refine ⟨?_, ?_, ?_⟩
  · have := own_otherP ho (p := ⟨N, 21, none⟩) (by simp) v'
    rw [List.length_append, List.flatMap_append]
    simpa using this
  · exact range_set (range_below h.2.1 (by omega) hb) (i := 21) (by rw [bkC_len]; omega) v'
  · exact there_set (vs := [v']) (B := N) (p := 21) (there_below h.2.2 (by omega) hb)
end Go.Proofs.Ytfddhmhagijodaa
