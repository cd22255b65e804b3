/- Slices of slices of ints: what a value reads as. No program. -/
import Derived.Test.YtfddhmhagijodaaApp2
namespace Go.Proofs.Ytfddhmhagijodaa
open Go.RowKit
set_option linter.unusedSimpArgs false
set_option linter.unusedVariables false

/-- The values vs read as the rows ls. -/
def RowVs (w : World) (vs : List Value) (ls : List (List Int)) : Prop := vs.length = ls.length ∧ ∀ i (h : i < vs.length) (h2 : i < ls.length), IntL w vs[i] ls[i]
theorem RowVs.keeps {w w' : World} {vs : List Value} {ls : List (List Int)} (h : RowVs w vs ls) (k : Keeps w w') : RowVs w' vs ls := ⟨h.1, fun i h1 h2 => (h.2 i h1 h2).keeps k⟩
theorem RowVs.nil (w : World) : RowVs w [] [] := ⟨rfl, fun i h => absurd h (Nat.not_lt_zero _)⟩
theorem RowVs.snoc {w : World} {vs : List Value} {ls : List (List Int)} {v : Value} {l : List Int} (h : RowVs w vs ls) (hv : IntL w v l) : RowVs w (vs ++ [v]) (ls ++ [l]) := by
  refine ⟨by simp [h.1], fun i h1 h2 => ?_⟩
  simp only [List.length_append, List.length_cons, List.length_nil] at h1
  by_cases hi : i < vs.length
  · have h3 : i < ls.length := by rw [← h.1]; exact hi
    rw [List.getElem_append_left hi, List.getElem_append_left h3]
    exact h.2 i hi h3
  · obtain rfl : i = vs.length := by omega
    have e1 : (vs ++ [v])[vs.length]'(by simp) = v := by simp
    have e2 : (ls ++ [l])[vs.length]'(by simp [h.1]) = l := by simp [h.1]
    rw [e1, e2]
    exact hv
theorem IntL.one {w : World} {v : Value} {xs : List Int} (h : IntL w v xs) : v.oneCell' = true := by obtain ⟨ao, cap, b, o, rfl, _⟩ := h; rfl
theorem RowVs.ones {w : World} {vs : List Value} {ls : List (List Int)} (h : RowVs w vs ls) : ∀ u ∈ vs, u.oneCell' = true := fun u hu => by
  obtain ⟨i, hi, rfl⟩ := List.getElem_of_mem hu
  exact (h.2 i hi (by rw [← h.1]; exact hi)).one
/-- The slice reads as rows. -/
def Rows (w : World) (ao : Option Addr) (ls : List (List Int)) (cap b o : Nat) : Prop := ∃ vs, Sl w 1 ao ls.length cap b o vs ∧ RowVs w vs ls
theorem Rows.keeps {w w' : World} {ao : Option Addr} {ls : List (List Int)} {cap b o : Nat} (h : Rows w ao ls cap b o) (k : Keeps w w') : Rows w' ao ls cap b o := by
  obtain ⟨vs, h1, h2⟩ := h
  exact ⟨vs, h1.keeps k, h2.keeps k⟩
theorem Rows.nil (w : World) : Rows w none [] 0 0 0 := ⟨[], Sl.nil _ _, RowVs.nil w⟩
theorem Rows.le {w : World} {ao : Option Addr} {ls : List (List Int)} {cap b o : Nat} (h : Rows w ao ls cap b o) : ls.length ≤ cap := by obtain ⟨vs, h1, _⟩ := h; exact h1.le
theorem Rows.cap {w : World} {ao : Option Addr} {ls : List (List Int)} {cap b o : Nat} (h : Rows w ao ls cap b o) : cap ≤ 9223372036854775807 := by obtain ⟨vs, h1, _⟩ := h; exact h1.cap
/-- One row of it. -/
theorem Rows.at {w : World} {ao : Option Addr} {ls : List (List Int)} {cap b o : Nat} (h : Rows w ao ls cap b o) (k : Nat) (hk : k < ls.length) :
    ∃ ao2 cap2 b2 o2, w.cell? ⟨b, o + k, none⟩ = some (.slice ao2 (ls[k]).length cap2) ∧ Sl w 1 ao2 (ls[k]).length cap2 b2 o2 ((ls[k]).map (.int .i64)) := by
  obtain ⟨vs, h1, h2⟩ := h
  have hk2 : k < vs.length := by rw [h2.1]; exact hk
  obtain ⟨ao2, cap2, b2, o2, e, hs⟩ := h2.2 k hk2 hk
  exact ⟨ao2, cap2, b2, o2, by rw [← e]; exact h1.cell k _ (List.getElem?_eq_getElem hk2), hs⟩
theorem Rows.at1 {P : Program} {t e : TypeId} {w : World} {ao : Option Addr} {ls : List (List Int)} {cap b o : Nat} (H : Rows w ao ls cap b o) (ht : P.underlying t = some (.slice e)) (hz : ∀ w, (sizeOf e).run P w = .ok 1 w)
    (k : Nat) (hk : k < ls.length) : ∀ w', (Instr.indexAt t (.slice ao ls.length cap) (.int .i64 (k : Int))).run P w' = .ok (.pointer (some ⟨b, o + k, none⟩)) w' := by
  obtain ⟨vs, h1, _⟩ := H
  exact h1.at1 ht hz k hk
/-- Rows that the call owns. -/
theorem Rows.own {w : World} {base e : Nat} {v : Value} {vs : List Value} {ls : List (List Int)} (h : w.ownsRow base e 1 v ls.length vs) (h2 : RowVs w vs ls) : ∃ ao cap b, v = .slice ao ls.length cap ∧ Rows w ao ls cap b 0 := by
  obtain ⟨ao, cap, b, rfl, hs⟩ := Sl.own h
  exact ⟨ao, cap, b, rfl, vs, hs, h2⟩
theorem wpList_app_rawR {P : Program} {w : World} {ops : Array Oper} {rest : List Oper} {o : Oper} {a : Act} {Q : Exit → Act → World → Prop} {t e : TypeId} {z : Value} {size bytes : Nat}
    (E : ElemOf P t e z size bytes) (hgd : o.guard = none) (s x : Operand) (ho : o.op = .call { callee := .builtin .append, args := #[s, x], argTypes := #[t, t] })
    (v : Value) (n : Nat) (xs : List Value) (hs : a.eval s = v) (base : Nat) (hown : w.ownsRow base e size v n xs) (hbase : base ≤ w.heap.size)
    (news : List Value) (bx c : Nat) (hx : a.eval x = .slice (some ⟨bx, 0, none⟩) 1 c) (hbx : bx = w.heap.size) (hl : news.length = size) (h1 : ∀ u ∈ news, u.oneCell' = true) (hbytes : (n + 1) * bytes ≤ 140737488355328) (h63 : n + 1 ≤ 9223372036854775807)
    (h : ∀ v' w', w'.ownsRow base e size v' (n + 1) (xs ++ news) → (w.alloc (.cells news.toArray e)).grownBy w' v.ownBlock → (v'.ownBlock = v.ownBlock ∨ v'.ownBlock = some (w.heap.size + 1)) → wpList P ops Q rest (a.put o.dst v') w') :
    wpList P ops Q (o :: rest) a (w.alloc (.cells news.toArray e)) := by
  subst hbx
  obtain ⟨i0, hi, hz0, hz1, hz2⟩ := info_parts E.info
  refine wpList_append_own_at _ hgd s x t ho base e i0 z size bytes E.ht hi hz0 hz1 hz2 E.zs E.sz v n xs hs (hown.alloc _) ⟨w.heap.size, 0, none⟩ 1 c news hx (by omega) ?_ h1 (by unfold maxLen; omega) hbytes (by simp; omega) ?_
  · intro j u hj
    rw [Addr.add_lit, Nat.zero_add, cell_of_row (w.alloc (.cells news.toArray e)) w.heap.size j news.toArray e (0, 0) (heap_alloc_new w _)]
    simpa using hj
  · intro v' w' hown' hgrow _ hat
    exact h v' w' hown' hgrow (by simpa using hat)

theorem IntL.grown {w w' : World} {v : Value} {xs : List Int} {g : Option Nat} (h : IntL w v xs) (hg : w.grownBy w' g) (hs : v.ownBlock = none ∨ v.ownBlock ≠ g) (hlt : ∀ b, v.ownBlock = some b → b < w.heap.size) : IntL w' v xs := by
  obtain ⟨ao, cap, b, o, rfl, hs2⟩ := h
  refine ⟨ao, cap, b, o, rfl, hs2.len, hs2.le, hs2.nocap, hs2.cap, hs2.addr, fun j u hu => ?_⟩
  have hn : 0 < xs.length := by
    rcases Nat.eq_zero_or_pos xs.length with h0 | h0
    · rw [List.eq_nil_of_length_eq_zero h0] at hu; simp at hu
    · exact h0
  have ha := hs2.addr hn
  subst ha
  have hne : some b ≠ g := by
    rcases hs with hs | hs
    · cases hs
    · exact hs
  exact hg.cell (hs2.cell j u hu) hne
/-- The values vs, none of them in block g, read as the rows ls. -/
def RowsG (w : World) (g : Option Nat) (vs : List Value) (ls : List (List Int)) : Prop := RowVs w vs ls ∧ ∀ u ∈ vs, (u.ownBlock = none ∨ u.ownBlock ≠ g) ∧ ∀ b, u.ownBlock = some b → b < w.heap.size
theorem RowsG.nil (w : World) (g : Option Nat) : RowsG w g [] [] := ⟨RowVs.nil w, fun u hu => absurd hu (by simp)⟩
theorem RowsG.keeps {w w' : World} {g : Option Nat} {vs : List Value} {ls : List (List Int)} (h : RowsG w g vs ls) (k : Keeps w w') : RowsG w' g vs ls :=
  ⟨h.1.keeps k, fun u hu => ⟨(h.2 u hu).1, fun b hb => Nat.lt_of_lt_of_le ((h.2 u hu).2 b hb) k.size⟩⟩
theorem RowsG.grown {w w' : World} {g g' : Option Nat} {vs : List Value} {ls : List (List Int)} (h : RowsG w g vs ls) (hg : w.grownBy w' g) (hat : g' = g ∨ g' = some w.heap.size) : RowsG w' g' vs ls := by
  refine ⟨⟨h.1.1, fun i h1 h2 => (h.1.2 i h1 h2).grown hg (h.2 _ (List.getElem_mem h1)).1 (h.2 _ (List.getElem_mem h1)).2⟩, fun u hu => ⟨?_, fun b hb => Nat.lt_of_lt_of_le ((h.2 u hu).2 b hb) hg.size⟩⟩
  rcases hat with rfl | rfl
  · exact (h.2 u hu).1
  · cases hb : u.ownBlock with
    | none => exact .inl rfl
    | some b =>
      right
      have := (h.2 u hu).2 b hb
      simp
      omega
theorem RowsG.snoc {w : World} {g : Option Nat} {vs : List Value} {ls : List (List Int)} {u : Value} {l : List Int} (h : RowsG w g vs ls) (hu : IntL w u l) (hs : u.ownBlock = none ∨ u.ownBlock ≠ g) (hlt : ∀ b, u.ownBlock = some b → b < w.heap.size) : RowsG w g (vs ++ [u]) (ls ++ [l]) := by
  refine ⟨h.1.snoc hu, fun x hx => ?_⟩
  rcases List.mem_append.1 hx with hx | hx
  · exact h.2 x hx
  · simp only [List.mem_singleton] at hx
    subst hx
    exact ⟨hs, hlt⟩
/-- 'out = append(out, row)'. -/
theorem wpList_app_row {P : Program} {w : World} {ops : Array Oper} {rest : List Oper} {o : Oper} {a : Act} {Q : Exit → Act → World → Prop} {t e : TypeId} {z : Value} {bytes : Nat}
    (E : ElemOf P t e z 1 bytes) (hgd : o.guard = none) (s x : Operand) (ho : o.op = .call { callee := .builtin .append, args := #[s, x], argTypes := #[t, t] })
    (w0 : World) (v : Value) (n : Nat) (vs : List Value) (hs : a.eval s = v) (base : Nat) (hown : w.ownsRow base e 1 v n vs) (hb : Below base w0 w) (hbase : base ≤ w.heap.size)
    (ls : List (List Int)) (hr : RowsG w v.ownBlock vs ls) (u : Value) (l : List Int) (hu : IntL w u l) (hsep : u.ownBlock = none ∨ u.ownBlock ≠ v.ownBlock) (hlt : ∀ b, u.ownBlock = some b → b < w.heap.size)
    (bx c : Nat) (hx : a.eval x = .slice (some ⟨bx, 0, none⟩) 1 c) (hbx : bx = w.heap.size) (hbytes : (n + 1) * bytes ≤ 140737488355328) (h63 : n + 1 ≤ 9223372036854775807)
    (h : ∀ v' w', w'.ownsRow base e 1 v' (n + 1) (vs ++ [u]) → RowsG w' v'.ownBlock (vs ++ [u]) (ls ++ [l]) → Below base w0 w' → base ≤ w'.heap.size → wpList P ops Q rest (a.put o.dst v') w') :
    wpList P ops Q (o :: rest) a (w.alloc (.cells #[u] e)) := by
  refine wpList_app_rawR E hgd s x ho v n vs hs base hown hbase [u] bx c hx hbx rfl (by intro y hy; simp only [List.mem_singleton] at hy; subst hy; exact hu.one) hbytes h63 ?_
  intro v' w' hown' hg hat
  have hk : Keeps w (w.alloc (.cells #[u] e)) := (Keeps.refl w).alloc _
  refine h v' w' hown' (RowsG.grown ((hr.snoc hu hsep hlt).keeps hk) hg (by simpa using hat)) ((hb.alloc hbase _).grown hg (by simp; omega) (fun k hk => (hown.lt k hk).1)) (Nat.le_trans hbase (Nat.le_trans (by simp) hg.size))
theorem sep_new {w wo : World} {base e1 e2 s1 s2 n1 n2 : Nat} {v u : Value} {xs ys : List Value} (hv : wo.ownsRow base e1 s1 v n1 xs) (hu : w.ownsRow wo.heap.size e2 s2 u n2 ys) : (u.ownBlock = none ∨ u.ownBlock ≠ v.ownBlock) ∧ ∀ b, u.ownBlock = some b → b < w.heap.size := by
  refine ⟨?_, fun b hb => (hu.lt b hb).2⟩
  cases hb : u.ownBlock with
  | none => exact .inl rfl
  | some b =>
    right
    intro e
    have h1 := (hu.lt b hb).1
    have h2 := (hv.lt b e.symm).2
    omega
/-- Rows and an error. -/
def OutRows (w : World) (r : List (List Int) × Int) (e : Ending) (w' : World) : Prop := ∃ ao cap b o, e = .returned (.tuple #[.slice ao r.1.length cap, .int .i64 r.2]) ∧ Rows w' ao r.1 cap b o ∧ Keeps w w'
theorem OutRows.nil {w w' : World} {r : List (List Int) × Int} {er : Int} (h : r = ([], er)) (hk : Keeps w w') : OutRows w r (.returned (.tuple #[.slice none 0 0, .int .i64 er])) w' := by
  subst h; exact ⟨none, 0, 0, 0, rfl, Rows.nil _, hk⟩
end Go.Proofs.Ytfddhmhagijodaa
