/- Two slices that a call makes itself and appends to by turns. No program. -/
import Derived.Test.YtppjjmjdiccloaaApp
namespace Go.Proofs.Ytppjjmjdiccloaa
open Go.RowKit

/-- The two slices have no block in common. -/
def Sep (a b : Value) : Prop := a.ownBlock = none ∨ b.ownBlock = none ∨ a.ownBlock ≠ b.ownBlock
theorem Sep.symm {a b : Value} (h : Sep a b) : Sep b a := by
  rcases h with h | h | h
  · exact .inr (.inl h)
  · exact .inl h
  · exact .inr (.inr fun e => h e.symm)
theorem Sep.nil (a : Value) : Sep a (.slice none 0 0) := .inr (.inl rfl)

/-- 'out = append(out, x)' beside another slice of the call's own. -/
theorem wpList_app2 {P : Program} {w : World} {ops : Array Oper} {rest : List Oper} {o : Oper} {a : Act} {Q : Exit → Act → World → Prop} {t e e2 : TypeId} {z : Value} {size bytes size2 : Nat}
    (E : ElemOf P t e z size bytes) (hgd : o.guard = none) (s x : Operand) (ho : o.op = .call { callee := .builtin .append, args := #[s, x], argTypes := #[t, t] })
    (w0 : World) (v : Value) (n : Nat) (xs : List Value) (hs : a.eval s = v) (base : Nat) (hown : w.ownsRow base e size v n xs) (hb : Below base w0 w) (hbase : base ≤ w.heap.size)
    (v2 : Value) (n2 : Nat) (xs2 : List Value) (hown2 : w.ownsRow base e2 size2 v2 n2 xs2) (hsep : Sep v2 v)
    (news : List Value) (c : Nat) (hx : a.eval x = .slice (some ⟨w.heap.size, 0, none⟩) 1 c) (hl : news.length = size) (h1 : ∀ u ∈ news, u.oneCell' = true) (hbytes : (n + 1) * bytes ≤ 140737488355328) (h63 : n + 1 ≤ 9223372036854775807)
    (h : ∀ v' w', w'.ownsRow base e size v' (n + 1) (xs ++ news) → w'.ownsRow base e2 size2 v2 n2 xs2 → Sep v2 v' → Below base w0 w' → base ≤ w'.heap.size → wpList P ops Q rest (a.put o.dst v') w') :
    wpList P ops Q (o :: rest) a (w.alloc (.cells news.toArray e)) := by
  obtain ⟨i0, hi, hz0, hz1, hz2⟩ := info_parts E.info
  refine wpList_append_own_at _ hgd s x t ho base e i0 z size bytes E.ht hi hz0 hz1 hz2 E.zs E.sz v n xs hs (hown.alloc _) ⟨w.heap.size, 0, none⟩ 1 c news hx (by omega) ?_ h1 (by unfold maxLen; omega) hbytes (by simp; omega) ?_
  · intro j u hj
    rw [Addr.add_lit, Nat.zero_add, cell_of_row (w.alloc (.cells news.toArray e)) w.heap.size j news.toArray e (0, 0) (heap_alloc_new w _)]
    simpa using hj
  · intro v' w' hown' hgrow _ hat
    have hlt2 := hown2.lt
    refine h v' w' hown' ((hown2.alloc _).kept hgrow ?_) ?_ ((hb.alloc hbase _).grown hgrow (by simp; omega) (fun k hk => (hown.lt k hk).1)) (Nat.le_trans hbase (Nat.le_trans (by simp) hgrow.size))
    · rcases hsep with h' | h' | h'
      · exact .inl h'
      · rw [h']
        cases hv : v2.ownBlock
        · exact .inl rfl
        · exact .inr (by simp)
      · exact .inr h'
    · rcases hat with h' | h'
      · unfold Sep; rw [h']; exact hsep
      · cases hv : v2.ownBlock with
        | none => exact .inl hv
        | some k =>
          right; right
          have := (hlt2 k hv).2
          rw [hv, h']
          simp
          omega
end Go.Proofs.Ytppjjmjdiccloaa
