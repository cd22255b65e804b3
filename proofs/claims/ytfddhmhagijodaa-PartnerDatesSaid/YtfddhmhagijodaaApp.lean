/- One append of one element to a slice that the call itself makes, as one law of the walk. No program. -/
import Derived.Test.YtfddhmhagijodaaBase
import Derived.Maps.AppendAt
namespace Go.Proofs.Ytfddhmhagijodaa
open Go.RowKit

/-- The element type's row of the table, for cells of one cell and 8 bytes. -/
structure ElemOf (P : Program) (t e : TypeId) (z : Value) (size bytes : Nat) : Prop where
  ht : P.underlying t = some (.slice e)
  info : (P.info? e).map (fun i => (i.zero, i.size, i.bytes)) = some (some z, size, bytes)
  zs : z.cells.size = size
  sz : 0 < size

/-- 'out = append(out, x)': out is nil or the call's own; x has been laid into a new block. w0: the world when the call began; base: its size. -/
theorem wpList_app {P : Program} {w : World} {ops : Array Oper} {rest : List Oper} {o : Oper} {a : Act} {Q : Exit → Act → World → Prop} {t e : TypeId} {z : Value} {size bytes : Nat}
    (E : ElemOf P t e z size bytes) (hgd : o.guard = none) (s x : Operand) (ho : o.op = .call { callee := .builtin .append, args := #[s, x], argTypes := #[t, t] })
    (w0 : World) (v : Value) (n : Nat) (xs : List Value) (hs : a.eval s = v) (base : Nat) (hown : w.ownsRow base e size v n xs) (hb : Below base w0 w) (hbase : base ≤ w.heap.size)
    (news : List Value) (c : Nat) (hx : a.eval x = .slice (some ⟨w.heap.size, 0, none⟩) 1 c) (hl : news.length = size) (h1 : ∀ u ∈ news, u.oneCell' = true) (hbytes : (n + 1) * bytes ≤ 140737488355328) (h63 : n + 1 ≤ 9223372036854775807)
    (h : ∀ v' w', w'.ownsRow base e size v' (n + 1) (xs ++ news) → Below base w0 w' → base ≤ w'.heap.size → wpList P ops Q rest (a.put o.dst v') w') :
    wpList P ops Q (o :: rest) a (w.alloc (.cells news.toArray e)) := by
  obtain ⟨i0, hi, hz0, hz1, hz2⟩ := info_parts E.info
  refine wpList_append_own _ hgd s x t ho base e i0 z size bytes E.ht hi hz0 hz1 hz2 E.zs E.sz v n xs hs (hown.alloc _) ⟨w.heap.size, 0, none⟩ 1 c news hx (by omega) ?_ h1 (by unfold maxLen; omega) hbytes (by simp; omega) ?_
  · intro j u hj
    rw [Addr.add_lit, Nat.zero_add, cell_of_row (w.alloc (.cells news.toArray e)) w.heap.size j news.toArray e (0, 0) (heap_alloc_new w _)]
    simpa using hj
  · intro v' w' hown' hgrow _
    refine h v' w' hown' ((hb.alloc hbase _).grown hgrow (by simp; omega) (fun k hk => (hown.lt k hk).1)) (Nat.le_trans hbase (Nat.le_trans (by simp) hgrow.size))

/-- The same, the new block's number spelled as the walk spells it. -/
theorem wpList_appx {P : Program} {w : World} {ops : Array Oper} {rest : List Oper} {o : Oper} {a : Act} {Q : Exit → Act → World → Prop} {t e : TypeId} {z : Value} {size bytes : Nat}
    (E : ElemOf P t e z size bytes) (hgd : o.guard = none) (s x : Operand) (ho : o.op = .call { callee := .builtin .append, args := #[s, x], argTypes := #[t, t] })
    (w0 : World) (v : Value) (n : Nat) (xs : List Value) (hs : a.eval s = v) (base : Nat) (hown : w.ownsRow base e size v n xs) (hb : Below base w0 w) (hbase : base ≤ w.heap.size)
    (news : List Value) (bx c : Nat) (hx : a.eval x = .slice (some ⟨bx, 0, none⟩) 1 c) (hbx : bx = w.heap.size) (hl : news.length = size) (h1 : ∀ u ∈ news, u.oneCell' = true) (hbytes : (n + 1) * bytes ≤ 140737488355328) (h63 : n + 1 ≤ 9223372036854775807)
    (h : ∀ v' w', w'.ownsRow base e size v' (n + 1) (xs ++ news) → Below base w0 w' → base ≤ w'.heap.size → wpList P ops Q rest (a.put o.dst v') w') :
    wpList P ops Q (o :: rest) a (w.alloc (.cells news.toArray e)) := by
  subst hbx
  exact wpList_app E hgd s x ho w0 v n xs hs base hown hb hbase news c hx hl h1 hbytes h63 h

/-- 'append(out, xs...)': out is nil or the call's own; xs reads as a slice. -/
theorem wp_app_all {P : Program} {w : World} {o : Oper} {a : Act} {K : Act → World → Prop} {Q : Exit → Act → World → Prop} {t e : TypeId} {z : Value} {size bytes : Nat}
    (E : ElemOf P t e z size bytes) (s x : Operand) (ho : o.op = .call { callee := .builtin .append, args := #[s, x], argTypes := #[t, t] })
    (w0 : World) (v : Value) (n : Nat) (xs : List Value) (hs : a.eval s = v) (base : Nat) (hown : w.ownsRow base e size v n xs) (hb : Below base w0 w) (hbase : base ≤ w.heap.size)
    (ao : Option Addr) (m c b off : Nat) (cs : List Value) (hx : a.eval x = .slice ao m c) (H : Sl w size ao m c b off cs) (h1 : ∀ u ∈ cs, u.oneCell' = true) (hbytes : (n + m) * bytes ≤ 140737488355328) (h63 : n + m ≤ 9223372036854775807)
    (h : ∀ v' w', w'.ownsRow base e size v' (n + m) (xs ++ cs) → Below base w0 w' → base ≤ w'.heap.size → K (a.put o.dst v') w') :
    o.wp P a w K Q := by
  obtain ⟨i0, hi, hz0, hz1, hz2⟩ := info_parts E.info
  cases ao with
  | none =>
    have hc := H.nocap rfl
    have hm : m = 0 := by have := H.le; omega
    subst hc hm
    have hcs : cs = [] := List.eq_nil_of_length_eq_zero (by simpa using H.len)
    subst hcs
    have hr := run_append_owned_none (P := P) w base t o.type e i0 size E.ht hi v n xs hown
    unfold Oper.wp execOp
    simp only [ho, resolve, invoke, builtin, Sem.run_bind, Sem.run_pure, Result.andThen_ok, List.map_toArray, List.map_cons, List.map_nil, hs, hx, hr]
    exact h v w (by simpa using hown) hb hbase
  | some ad =>
    refine wp_append_own w s x t ho base e i0 z size bytes E.ht hi hz0 hz1 hz2 E.zs E.sz v n xs hs hown ad m c cs hx H.len ?_ h1 (by unfold maxLen; omega) hbytes hbase ?_
    · intro j u hj
      have hm : 0 < m := by
        rcases Nat.eq_zero_or_pos m with h0 | h0
        · subst h0
          have hcs : cs = [] := List.eq_nil_of_length_eq_zero (by simpa using H.len)
          subst hcs
          simp at hj
        · exact h0
      have ha := H.addr hm
      simp only [Option.some.injEq] at ha
      subst ha
      rw [Addr.add_lit]
      exact H.cell j u hj
    · intro v' w' hown' hgrow _
      exact h v' w' hown' (hb.grown hgrow hbase (fun k hk => (hown.lt k hk).1)) (Nat.le_trans hbase hgrow.size)

/-- The same at a step of a region that draws its order. -/
theorem step_app_all {P : Program} {w : World} {ops : Array Oper} {o : Oper} {a : Act} {K : Act → World → Prop} {Q : Exit → Act → World → Prop} {F : Prop} {t e : TypeId} {z : Value} {size bytes : Nat}
    (E : ElemOf P t e z size bytes) (hgd : o.guard = none) (s x : Operand) (ho : o.op = .call { callee := .builtin .append, args := #[s, x], argTypes := #[t, t] })
    (w0 : World) (v : Value) (n : Nat) (xs : List Value) (hs : a.eval s = v) (base : Nat) (hown : w.ownsRow base e size v n xs) (hb : Below base w0 w) (hbase : base ≤ w.heap.size)
    (ao : Option Addr) (m c b off : Nat) (cs : List Value) (hx : a.eval x = .slice ao m c) (H : Sl w size ao m c b off cs) (h1 : ∀ u ∈ cs, u.oneCell' = true) (hbytes : (n + m) * bytes ≤ 140737488355328) (h63 : n + m ≤ 9223372036854775807)
    (h : ∀ v' w', w'.ownsRow base e size v' (n + m) (xs ++ cs) → Below base w0 w' → base ≤ w'.heap.size → K (a.put o.dst v') w') :
    if Region.wanted o (yielded ops a.tmps) = true then Oper.wp P o a w K Q else F := by
  have hw : Region.wanted o (yielded ops a.tmps) = true := by simp [Region.wanted, hgd]
  rw [if_pos hw]
  exact wp_app_all E s x ho w0 v n xs hs base hown hb hbase ao m c b off cs hx H h1 hbytes h63 h
theorem wpList_app_all {P : Program} {w : World} {ops : Array Oper} {rest : List Oper} {o : Oper} {a : Act} {Q : Exit → Act → World → Prop} {t e : TypeId} {z : Value} {size bytes : Nat}
    (E : ElemOf P t e z size bytes) (hgd : o.guard = none) (s x : Operand) (ho : o.op = .call { callee := .builtin .append, args := #[s, x], argTypes := #[t, t] })
    (w0 : World) (v : Value) (n : Nat) (xs : List Value) (hs : a.eval s = v) (base : Nat) (hown : w.ownsRow base e size v n xs) (hb : Below base w0 w) (hbase : base ≤ w.heap.size)
    (ao : Option Addr) (m c b off : Nat) (cs : List Value) (hx : a.eval x = .slice ao m c) (H : Sl w size ao m c b off cs) (h1 : ∀ u ∈ cs, u.oneCell' = true) (hbytes : (n + m) * bytes ≤ 140737488355328) (h63 : n + m ≤ 9223372036854775807)
    (h : ∀ v' w', w'.ownsRow base e size v' (n + m) (xs ++ cs) → Below base w0 w' → base ≤ w'.heap.size → wpList P ops Q rest (a.put o.dst v') w') :
    wpList P ops Q (o :: rest) a w :=
  wpList_plain hgd fun _ hK => wp_app_all E s x ho w0 v n xs hs base hown hb hbase ao m c b off cs hx H h1 hbytes h63 fun v' w' h2 h3 h4 => hK _ _ (h v' w' h2 h3 h4)

/-- A slice literal without elements owns nothing. -/
theorem own_empty {w : World} {base e size : Nat} (hb : base ≤ w.heap.size) : (w.alloc (.cells #[] e)).ownsRow base e size (.slice (some ⟨w.heap.size, 0, none⟩) 0 0) 0 [] :=
  World.ownsRow_made w #[] 0 hb (by unfold maxLen; omega) (by simp)

theorem own_emptyx {w : World} {base e size bx : Nat} (hb : base ≤ w.heap.size) (hx : bx = w.heap.size) : (w.alloc (.cells #[] e)).ownsRow base e size (.slice (some ⟨bx, 0, none⟩) 0 0) 0 [] := by subst hx; exact own_empty hb

/-- The value reads as a list of ints. -/
def IntL (w : World) (v : Value) (xs : List Int) : Prop := ∃ ao cap b o, v = .slice ao xs.length cap ∧ Sl w 1 ao xs.length cap b o (xs.map (.int .i64))
theorem IntL.keeps {w w' : World} {v : Value} {xs : List Int} (h : IntL w v xs) (hk : Keeps w w') : IntL w' v xs := by
  obtain ⟨ao, cap, b, o, rfl, hs⟩ := h
  exact ⟨ao, cap, b, o, rfl, hs.keeps hk⟩
theorem IntL.own {w : World} {v : Value} {xs : List Int} {base e : Nat} (h : w.ownsRow base e 1 v xs.length (xs.map (.int .i64))) : IntL w v xs := by
  obtain ⟨ao, cap, b, rfl, hs⟩ := Sl.own h
  exact ⟨ao, cap, b, 0, rfl, hs⟩
theorem IntL.of {w : World} {ao : Option Addr} {cap b o : Nat} {xs : List Int} (h : Sl w 1 ao xs.length cap b o (xs.map (.int .i64))) : IntL w (.slice ao xs.length cap) xs := ⟨ao, cap, b, o, rfl, h⟩

/-- A slice literal reads as its elements. -/
theorem Sl.lit (w : World) (sz n : Nat) (cs : List Value) (e : TypeId) (hs : cs.length = n * sz) (hn : n ≤ 9223372036854775807) : Sl (w.alloc (.cells cs.toArray e)) sz (some ⟨w.heap.size, 0, none⟩) n n w.heap.size 0 cs :=
  ⟨hs, Nat.le_refl _, (fun h => by cases h), hn, fun _ => rfl, fun j u hu => by
    rw [Nat.zero_add, cell_of_row (w.alloc (.cells cs.toArray e)) w.heap.size j cs.toArray e (0, 0) (heap_alloc_new w _)]
    simpa using hu⟩

/-- The first k elements. -/
theorem Sl.take {w : World} {sz : Nat} {ao : Option Addr} {n cap b o : Nat} {cs : List Value} (H : Sl w sz ao n cap b o cs) (k : Nat) (hk : k ≤ n) : Sl w sz ao k cap b o (cs.take (k * sz)) :=
  ⟨by rw [List.length_take, H.len]; exact Nat.min_eq_left (Nat.mul_le_mul_right _ hk), Nat.le_trans hk H.le, H.nocap, H.cap, fun h => H.addr (by omega), fun j u hu => H.cell j u (by
    rw [List.getElem?_take] at hu
    split at hu
    · exact hu
    · cases hu)⟩
theorem Sl.takeInt {w : World} {q : IntKind} {ao : Option Addr} {cap b o : Nat} {xs : List Int} (H : Sl w 1 ao xs.length cap b o (xs.map (.int q))) (k : Nat) (hk : k ≤ xs.length) : Sl w 1 ao (xs.take k).length cap b o ((xs.take k).map (.int q)) := by
  have := H.take k hk
  rw [List.length_take, Nat.min_eq_left hk, List.map_take]
  simpa using this

/-- 'xs[:k]'. -/
theorem run_cutTo {P : Program} {t e : TypeId} {sz : Nat} (ht : P.underlying t = some (.slice e)) (hz : ∀ w, (sizeOf e).run P w = .ok sz w) (ao : Option Addr) (n cap k : Nat) (hk : k ≤ cap) (_hc : cap ≤ 9223372036854775807) (w' : World) :
    (Instr.slice t (.slice ao n cap) none (some (.int .i64 (k : Int))) none).run P w' = .ok (.slice ao k cap) w' := by
  have hk' : (k : Int) ≤ (cap : Int) := by omega
  go_simp
/-- 'xs[k:]'. -/
theorem run_cutFrom {P : Program} {t e : TypeId} {sz : Nat} (ht : P.underlying t = some (.slice e)) (hz : ∀ w, (sizeOf e).run P w = .ok sz w) (ao : Option Addr) (n cap k : Nat) (hk : k ≤ n) (hn : n ≤ cap) (_hc : cap ≤ 9223372036854775807) (w' : World) :
    (Instr.slice t (.slice ao n cap) (some (.int .i64 (k : Int))) none none).run P w' = .ok (.slice (if cap = k then ao else ao.map (fun x => x.add (k * sz))) (n - k) (cap - k)) w' := by
  have hk' : (k : Int) ≤ (cap : Int) := by omega
  have hk2 : (k : Int) ≤ (n : Int) := by omega
  go_simp
theorem Sl.cutFrom {P : Program} {t e : TypeId} {w : World} {sz : Nat} {ao : Option Addr} {n cap b o : Nat} {cs : List Value} (H : Sl w sz ao n cap b o cs) (ht : P.underlying t = some (.slice e)) (hz : ∀ w, (sizeOf e).run P w = .ok sz w) (k : Nat) (hk : k ≤ n) :
    ∃ ao', (∀ w', (Instr.slice t (.slice ao n cap) (some (.int .i64 (k : Int))) none none).run P w' = .ok (.slice ao' (n - k) (cap - k)) w') ∧ Sl w sz ao' (n - k) (cap - k) b (o + k * sz) (cs.drop (k * sz)) := by
  refine ⟨_, fun w' => run_cutFrom ht hz ao n cap k hk H.le H.cap w', ?_⟩
  have hle := H.le
  have hcap := H.cap
  refine ⟨by rw [List.length_drop, H.len, Nat.sub_mul], by omega, fun h => ?_, by omega, fun h => ?_, fun j u hj => ?_⟩
  · by_cases h1 : cap = k
    · omega
    · rw [if_neg h1] at h
      have : ao = none := by cases ao; rfl; simp at h
      have := H.nocap this
      omega
  · rw [if_neg (by omega), H.addr (by omega)]
    simp [Addr.add_lit]
  · rw [List.getElem?_drop] at hj
    have := H.cell _ u hj
    rw [show o + k * sz + j = o + (k * sz + j) from by omega]
    exact this
end Go.Proofs.Ytfddhmhagijodaa
