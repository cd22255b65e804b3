/- Two slices that a call makes itself and appends to by turns. No program. -/
import Derived.Test.YtfddhmhagijodaaApp
namespace Go.Proofs.Ytfddhmhagijodaa
open Go.RowKit

/-- The two slices have no block in common. -/
def Sep (a b : Value) : Prop := a.ownBlock = none ∨ b.ownBlock = none ∨ a.ownBlock ≠ b.ownBlock
theorem Sep.symm {a b : Value} (h : Sep a b) : Sep b a := by
  rcases h with h | h | h
  · exact .inr (.inl h)
  · exact .inl h
  · exact .inr (.inr fun e => h e.symm)
theorem Sep.nil (a : Value) : Sep a (.slice none 0 0) := .inr (.inl rfl)

/-- 'out = append(out, x)' beside another slice of the call's own. -/
theorem wpList_app2 {P : Program} {w : World} {ops : Array Oper} {rest : List Oper} {o : Oper} {a : Act} {Q : Exit → Act → World → Prop} {t e e2 : TypeId} {z : Value} {size bytes size2 : Nat}
    (E : ElemOf P t e z size bytes) (hgd : o.guard = none) (s x : Operand) (ho : o.op = .call { callee := .builtin .append, args := #[s, x], argTypes := #[t, t] })
    (w0 : World) (v : Value) (n : Nat) (xs : List Value) (hs : a.eval s = v) (base : Nat) (hown : w.ownsRow base e size v n xs) (hb : Below base w0 w) (hbase : base ≤ w.heap.size)
    (v2 : Value) (n2 : Nat) (xs2 : List Value) (hown2 : w.ownsRow base e2 size2 v2 n2 xs2) (hsep : Sep v2 v)
    (news : List Value) (c : Nat) (hx : a.eval x = .slice (some ⟨w.heap.size, 0, none⟩) 1 c) (hl : news.length = size) (h1 : ∀ u ∈ news, u.oneCell' = true) (hbytes : (n + 1) * bytes ≤ 140737488355328) (h63 : n + 1 ≤ 9223372036854775807)
    (h : ∀ v' w', w'.ownsRow base e size v' (n + 1) (xs ++ news) → w'.ownsRow base e2 size2 v2 n2 xs2 → Sep v2 v' → Below base w0 w' → base ≤ w'.heap.size → wpList P ops Q rest (a.put o.dst v') w') :
    wpList P ops Q (o :: rest) a (w.alloc (.cells news.toArray e)) := by
  obtain ⟨i0, hi, hz0, hz1, hz2⟩ := info_parts E.info
  refine wpList_append_own_at _ hgd s x t ho base e i0 z size bytes E.ht hi hz0 hz1 hz2 E.zs E.sz v n xs hs (hown.alloc _) ⟨w.heap.size, 0, none⟩ 1 c news hx (by omega) ?_ h1 (by unfold maxLen; omega) hbytes (by simp; omega) ?_
  · intro j u hj
    rw [Addr.add_lit, Nat.zero_add, cell_of_row (w.alloc (.cells news.toArray e)) w.heap.size j news.toArray e (0, 0) (heap_alloc_new w _)]
    simpa using hj
  · intro v' w' hown' hgrow _ hat
    have hlt2 := hown2.lt
    refine h v' w' hown' ((hown2.alloc _).kept hgrow ?_) ?_ ((hb.alloc hbase _).grown hgrow (by simp; omega) (fun k hk => (hown.lt k hk).1)) (Nat.le_trans hbase (Nat.le_trans (by simp) hgrow.size))
    · rcases hsep with h' | h' | h'
      · exact .inl h'
      · rw [h']
        cases hv : v2.ownBlock
        · exact .inl rfl
        · exact .inr (by simp)
      · exact .inr h'
    · rcases hat with h' | h'
      · unfold Sep; rw [h']; exact hsep
      · cases hv : v2.ownBlock with
        | none => exact .inl hv
        | some k =>
          right; right
          have := (hlt2 k hv).2
          rw [hv, h']
          simp
          omega

/-- One append of one element as a step of a region that draws its order: what the law leaves, raw. -/
theorem step_one {P : Program} {w : World} {ops : Array Oper} {o : Oper} {a : Act} {K : Act → World → Prop} {Q : Exit → Act → World → Prop} {F : Prop} {t e : TypeId} {z : Value} {bytes : Nat}
    (E : ElemOf P t e z 1 bytes) (hgd : o.guard = none) (s x : Operand) (ho : o.op = .call { callee := .builtin .append, args := #[s, x], argTypes := #[t, t] })
    (v : Value) (n : Nat) (xs : List Value) (hs : a.eval s = v) (base : Nat) (hown : w.ownsRow base e 1 v n xs) (hbase : base ≤ w.heap.size)
    (bx c : Nat) (u : Value) (hx : a.eval x = .slice (some ⟨bx, 0, none⟩) 1 c) (hu : w.cell? ⟨bx, 0, none⟩ = some u) (h1 : u.oneCell' = true) (hbytes : (n + 1) * bytes ≤ 140737488355328) (h63 : n + 1 ≤ 9223372036854775807)
    (h : ∀ v' w', w'.ownsRow base e 1 v' (n + 1) (xs ++ [u]) → w.grownBy w' v.ownBlock → (v'.ownBlock = v.ownBlock ∨ v'.ownBlock = some w.heap.size) → K (a.put o.dst v') w') :
    if Region.wanted o (yielded ops a.tmps) = true then Oper.wp P o a w K Q else F := by
  have hw : Region.wanted o (yielded ops a.tmps) = true := by simp [Region.wanted, hgd]
  rw [if_pos hw]
  obtain ⟨i0, hi, hz0, hz1, hz2⟩ := info_parts E.info
  obtain ⟨v', w', hr, h2, h3, _, h5⟩ := run_append_own_at (P := P) w base t o.type e i0 z 1 bytes E.ht hi hz0 hz1 hz2 E.zs E.sz v n xs hown ⟨bx, 0, none⟩ 1 c [u] (by simp) (fun j u' hj => by
    match j, hj with
    | 0, hj =>
      simp at hj
      subst hj
      rw [Addr.add_lit]; exact hu) (by simpa using h1) (by unfold maxLen; omega) hbytes hbase
  unfold Oper.wp execOp
  simp only [ho, resolve, invoke, builtin, Sem.run_bind, Sem.run_pure, Result.andThen_ok, List.map_toArray, List.map_cons, List.map_nil, hs, hx, hr]
  exact h v' w' h2 h3 h5
theorem Sep.moved {W : World} {base e size n : Nat} {xs : List Value} {vo vm v2 : Value} (h : Sep vm vo) (hm : W.ownsRow base e size vm n xs) {B : Nat} (hB : W.heap.size ≤ B) (hat : v2.ownBlock = vo.ownBlock ∨ v2.ownBlock = some B) : Sep vm v2 := by
  rcases hat with h' | h'
  · unfold Sep; rw [h']; exact h
  · cases hv : vm.ownBlock with
    | none => exact .inl hv
    | some k =>
      right; right
      have := (hm.lt k hv).2
      rw [hv, h']
      simp
      omega
theorem Sep.keep {a b : Value} (h : Sep a b) : a.ownBlock = none ∨ a.ownBlock ≠ b.ownBlock := by
  rcases h with h | h | h
  · exact .inl h
  · cases ha : a.ownBlock
    · exact .inl rfl
    · rw [h]; exact .inr (by simp)
  · exact .inr h

theorem grown_refl (w : World) (row : Option Nat) : w.grownBy w row := ⟨rfl, rfl, rfl, Nat.le_refl _, fun _ _ _ => rfl⟩
/-- 'append(out, xs...)' as a step of a region that draws its order: what the law leaves, raw. -/
theorem step_all_raw {P : Program} {w : World} {ops : Array Oper} {o : Oper} {a : Act} {K : Act → World → Prop} {Q : Exit → Act → World → Prop} {F : Prop} {t e : TypeId} {z : Value} {size bytes : Nat}
    (E : ElemOf P t e z size bytes) (hgd : o.guard = none) (s x : Operand) (ho : o.op = .call { callee := .builtin .append, args := #[s, x], argTypes := #[t, t] })
    (v : Value) (n : Nat) (xs : List Value) (hs : a.eval s = v) (base : Nat) (hown : w.ownsRow base e size v n xs) (hbase : base ≤ w.heap.size)
    (ao : Option Addr) (m c b off : Nat) (cs : List Value) (hx : a.eval x = .slice ao m c) (H : Sl w size ao m c b off cs) (h1 : ∀ u ∈ cs, u.oneCell' = true) (hbytes : (n + m) * bytes ≤ 140737488355328) (h63 : n + m ≤ 9223372036854775807)
    (h : ∀ v' w', w'.ownsRow base e size v' (n + m) (xs ++ cs) → w.grownBy w' v.ownBlock → (v'.ownBlock = v.ownBlock ∨ v'.ownBlock = some w.heap.size) → K (a.put o.dst v') w') :
    if Region.wanted o (yielded ops a.tmps) = true then Oper.wp P o a w K Q else F := by
  have hw : Region.wanted o (yielded ops a.tmps) = true := by simp [Region.wanted, hgd]
  rw [if_pos hw]
  obtain ⟨i0, hi, hz0, hz1, hz2⟩ := info_parts E.info
  cases ao with
  | none =>
    have hc := H.nocap rfl
    have hm : m = 0 := by have := H.le; omega
    subst hc hm
    have hcs : cs = [] := List.eq_nil_of_length_eq_zero (by simpa using H.len)
    subst hcs
    have hr := run_append_owned_none (P := P) w base t o.type e i0 size E.ht hi v n xs hown
    unfold Oper.wp execOp
    simp only [ho, resolve, invoke, builtin, Sem.run_bind, Sem.run_pure, Result.andThen_ok, List.map_toArray, List.map_cons, List.map_nil, hs, hx, hr]
    exact h v w (by simpa using hown) (grown_refl w _) (.inl rfl)
  | some ad =>
    have hnews : ∀ j u, cs[j]? = some u → w.cell? (ad.add j) = some u := by
      intro j u hj
      have hm : 0 < m := by
        rcases Nat.eq_zero_or_pos m with h0 | h0
        · subst h0
          have hcs : cs = [] := List.eq_nil_of_length_eq_zero (by simpa using H.len)
          subst hcs
          simp at hj
        · exact h0
      have ha := H.addr hm
      simp only [Option.some.injEq] at ha
      subst ha
      rw [Addr.add_lit]
      exact H.cell j u hj
    obtain ⟨v', w', hr, h2, h3, _, h5⟩ := run_append_own_at (P := P) w base t o.type e i0 z size bytes E.ht hi hz0 hz1 hz2 E.zs E.sz v n xs hown ad m c cs H.len hnews h1 (by unfold maxLen; omega) hbytes hbase
    unfold Oper.wp execOp
    simp only [ho, resolve, invoke, builtin, Sem.run_bind, Sem.run_pure, Result.andThen_ok, List.map_toArray, List.map_cons, List.map_nil, hs, hx, hr]
    exact h v' w' h2 h3 h5
/-- The same for one new element of several cells that lies in a block of its own. -/
theorem Sl.block {w : World} {bx sz : Nat} {cs : List Value} (hl : cs.length = sz) (h : ∀ j u, cs[j]? = some u → w.cell? ⟨bx, j, none⟩ = some u) : Sl w sz (some ⟨bx, 0, none⟩) 1 1 bx 0 cs :=
  ⟨by simpa using hl, Nat.le_refl _, (fun h => by cases h), by omega, fun _ => rfl, fun j u hu => by rw [Nat.zero_add]; exact h j u hu⟩
end Go.Proofs.Ytfddhmhagijodaa
