/- What slices.DeleteFunc does to a row that the call owns: a store of a whole element, the clearing of its end, the cut. No program is walked. -/
import Derived.Test.YtfddhmhagijodaaClearP
import Derived.Deep.MidRow
namespace Go.Proofs.Ytfddhmhagijodaa
open Go.RowKit
set_option linter.unusedSimpArgs false
set_option linter.unusedVariables false

theorem own_there {w : World} {base e size n g cap : Nat} {xs : List Value} (h : w.ownsRow base e size (.slice (some ⟨g, 0, none⟩) n cap) n xs) (o m : Nat) (hm : o + m ≤ n * size) : w.there g o m := fun j hj => by
  refine ⟨?_, h.frozenAt _⟩
  have hl := h.1
  rw [h.cellAt _ (by omega), List.getElem?_eq_getElem (by omega)]
  rfl
/-- The first elements of a row. -/
theorem own_cut {w : World} {base e size n g cap : Nat} {xs : List Value} (h : w.ownsRow base e size (.slice (some ⟨g, 0, none⟩) n cap) n xs) (m : Nat) (hm : m ≤ n) : w.ownsRow base e size (.slice (some ⟨g, 0, none⟩) m cap) m (xs.take (m * size)) := by
  rcases h.2 with ⟨h', _⟩ | ⟨g', cap', cur, h', hb, hg, hnc, hcm, hcs, htake⟩
  · simp at h'
  · simp only [Value.slice.injEq, Option.some.injEq, Addr.mk.injEq, and_true, true_and] at h'
    obtain ⟨rfl, rfl⟩ := h'
    have hl : m * size ≤ n * size := Nat.mul_le_mul_right _ hm
    refine ⟨by rw [List.length_take, h.1]; omega, .inr ⟨g, cap, cur, rfl, hb, hg, by omega, hcm, hcs, ?_⟩⟩
    rw [← htake, List.take_take, Nat.min_eq_left hl]
theorem mem_zeroCells {z : Array Value} {n : Nat} {v : Value} (h : v ∈ (Builtin.zeroCells z n).toList) : v ∈ z.toList := by
  obtain ⟨j, hj, rfl⟩ := List.getElem_of_mem h
  have hjn : j < n * z.size := by simpa [Builtin.zeroCells] using hj
  have hz : 0 < z.size := by
    rcases Nat.eq_zero_or_pos z.size with e | e
    · rw [e] at hjn; simp at hjn
    · exact e
  have hm : j % z.size < z.size := Nat.mod_lt _ hz
  simp [Builtin.zeroCells, getElem!_pos z (j % z.size) hm]
/-- 'clear(s)' at its operation. -/
theorem wpList_clearK {P : Program} {w : World} {ops : Array Oper} {rest : List Oper} {op : Oper} {a : Act} {Q : Exit → Act → World → Prop} {t e : TypeId} {z : Value} (hgd : op.guard = none) (x : Operand) (ho : op.op = .call { callee := .builtin .clear, args := #[x], argTypes := #[t] })
    (ht : P.underlying t = some (.slice e)) (hv : ∀ w, (zeroValue e).run P w = .ok z w) (hz : ∀ v ∈ z.cells.toList, v.oneCell' = true) (b o n c k : Nat) (hk : z.cells.size = k) (hx : a.eval x = .slice (some ⟨b, o, none⟩) n c) (hn : 0 < n) (hth : w.there b o (n * k))
    (h : ∀ zs : List Value, zs.length = n * k → wpList P ops Q rest (a.put op.dst (.tuple #[])) (w.setCells b o zs)) : wpList P ops Q (op :: rest) a w := by
  refine wpList_plain hgd fun K hK => ?_
  have hl : (Builtin.zeroCells z.cells n).toList.length = n * k := by rw [Array.length_toList, size_zeroCells, hk]
  have hr := run_clearK (P := P) w t e op.type z ht hv b o n c hn (fun v h => hz v (mem_zeroCells h)) (fun j hj => (hth j (by omega)).1) (fun j hj => (hth j (by omega)).2)
  unfold Oper.wp execOp
  simp only [ho, resolve, invoke, builtin, Sem.run_bind, Sem.run_pure, Result.andThen_ok, List.map_toArray, List.map_cons, List.map_nil, hx, hr]
  exact hK _ _ (h _ hl)
end Go.Proofs.Ytfddhmhagijodaa
