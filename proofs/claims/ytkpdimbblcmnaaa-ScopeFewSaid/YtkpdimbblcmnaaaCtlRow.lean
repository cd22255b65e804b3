/- A row of values in a block of its own; make([]T, n). No program. -/
import Derived.Test.YtkpdimbblcmnaaaCtlStepW
import Derived.OwnWalkIn
import Derived.Laws.MakeOwn
import Derived.Laws.OwnMore
namespace Go.Proofs.Ytkpdimbblcmnaaa
open Go.RowKit
set_option linter.unusedSimpArgs false
set_option linter.unusedVariables false

/-- Block B holds the row vs. -/
def RowB (W : World) (B : Nat) (t : TypeId) (vs : List Value) : Prop := W.heap[B]? = some (.cells vs.toArray t (0, 0))
theorem RowB.new (W : World) (t : TypeId) (vs : List Value) : RowB (W.alloc (.cells vs.toArray t)) W.heap.size t vs := World.alloc_heap_new W _
theorem RowB.lt {W : World} {B : Nat} {t : TypeId} {vs : List Value} (h : RowB W B t vs) : B < W.heap.size := (Array.getElem?_eq_some_iff.1 h).1
theorem RowB.keeps {W W' : World} {B : Nat} {t : TypeId} {vs : List Value} (h : RowB W B t vs) (k : Keeps W W') : RowB W' B t vs := (k.block B h.lt).trans h
theorem RowB.kept {W W' : World} {row : Option Nat} {B : Nat} {t : TypeId} {vs : List Value} (h : RowB W B t vs) (hg : W.grownBy W' row) (hne : some B ≠ row) : RowB W' B t vs := (hg.block B h.lt hne).trans h
theorem RowB.alloc {W : World} {B : Nat} {t : TypeId} {vs : List Value} (h : RowB W B t vs) (o : Obj) : RowB (W.alloc o) B t vs := h.kept (World.grownBy_alloc W o none) (by simp)
theorem RowB.cell {W : World} {B : Nat} {t : TypeId} {vs : List Value} (h : RowB W B t vs) (j : Nat) (u : Value) (hu : vs[j]? = some u) : W.cell? ⟨B, j, none⟩ = some u := by
  simp [World.cell?, show W.heap[B]? = _ from h, hu]
theorem RowB.frozen {W : World} {B : Nat} {t : TypeId} {vs : List Value} (h : RowB W B t vs) (j : Nat) : W.frozen? ⟨B, j, none⟩ = false := by simp [World.frozen?, show W.heap[B]? = _ from h]
theorem RowB.set {W : World} {B : Nat} {t : TypeId} {vs : List Value} (h : RowB W B t vs) (j : Nat) (u : Value) : RowB (W.setCell ⟨B, j, none⟩ u) B t (vs.set j u) := by
  unfold RowB
  show (W.heap.modify B _)[B]? = _
  rw [Array.getElem?_modify, if_pos rfl, show W.heap[B]? = _ from h]
  simp
theorem RowB.other {W : World} {B : Nat} {t : TypeId} {vs : List Value} (h : RowB W B t vs) {p : Addr} (hne : p.block ≠ B) (u : Value) : RowB (W.setCell p u) B t vs :=
  (Below.heap_setCell W p u B (fun e => hne e.symm)).trans h
theorem RowB.own {β : Type} (B : Nat) (t : TypeId) (f : β → List Value) : Own (fun s W => RowB W B t (f s)) := fun s X Y row hs hg hrow =>
  hs.kept hg (fun e' => by obtain ⟨o, ho, hc⟩ := hrow B e'.symm; rw [show X.heap[B]? = _ from hs] at ho; cases ho; cases hc)
theorem boxed_other {W : World} {B : Nat} {t : TypeId} {v : Value} (h : Boxed W B t v) {p : Addr} (hne : p.block ≠ B) (u : Value) : Boxed (W.setCell p u) B t v :=
  (Below.heap_setCell W p u B (fun e => hne e.symm)).trans h
theorem boxed_keeps {W W' : World} {B : Nat} {t : TypeId} {v : Value} (h : Boxed W B t v) (k : Keeps W W') : Boxed W' B t v := (k.block B h.lt).trans h
/-- The row as a slice. -/
theorem RowB.sl {W : World} {B : Nat} {t : TypeId} {vs : List Value} (h : RowB W B t vs) (hl : vs.length ≤ 9223372036854775807) : Sl W 1 (some ⟨B, 0, none⟩) vs.length vs.length B 0 vs :=
  ⟨by simp, Nat.le_refl _, (fun h => by cases h), hl, fun _ => rfl, fun j u hu => by rw [Nat.zero_add]; exact h.cell j u hu⟩
/-- A row of ints by a function. -/
def fnI (φ : Nat → Int) (n : Nat) : List Int := (List.range n).map φ
theorem fnI_len (φ : Nat → Int) (n : Nat) : (fnI φ n).length = n := by simp [fnI]
def rowI (φ : Nat → Int) (n : Nat) : List Value := (fnI φ n).map (.int .i64)
theorem rowI_len (φ : Nat → Int) (n : Nat) : (rowI φ n).length = n := by simp [rowI, fnI]
theorem rowI_get (φ : Nat → Int) (n j : Nat) (hj : j < n) : (rowI φ n)[j]? = some (.int .i64 (φ j)) := by simp [rowI, fnI, hj]
theorem rowI_congr {φ ψ : Nat → Int} {n : Nat} (h : ∀ i < n, φ i = ψ i) : rowI φ n = rowI ψ n := by
  unfold rowI fnI
  rw [List.map_congr_left (fun i hi => h i (List.mem_range.1 hi))]
def updI (φ : Nat → Int) (j : Nat) (x : Int) : Nat → Int := fun i => if i = j then x else φ i
theorem rowI_set (φ : Nat → Int) (n j : Nat) (x : Int) : (rowI φ n).set j (.int .i64 x) = rowI (updI φ j x) n := by
  apply List.ext_getElem?
  intro i
  rw [List.getElem?_set]
  by_cases hi : i < n
  · rw [rowI_get _ _ _ hi]
    by_cases hij : j = i
    · subst hij; rw [if_pos rfl, if_pos (by rw [rowI_len]; exact hi), rowI_get _ _ _ hi]; show _ = some (Value.int .i64 (if j = j then x else φ j)); rw [if_pos rfl]
    · rw [if_neg hij, rowI_get _ _ _ hi]; show _ = some (Value.int .i64 (if i = j then x else φ i)); rw [if_neg (Ne.symm hij)]
  · have h1 : (rowI φ n)[i]? = none := by rw [List.getElem?_eq_none]; rw [rowI_len]; omega
    have h2 : (rowI (updI φ j x) n)[i]? = none := by rw [List.getElem?_eq_none]; rw [rowI_len]; omega
    rw [h1, h2]
    split
    · rw [if_neg (by rw [rowI_len]; omega)]
    · rfl
theorem rowI_zero (n : Nat) : List.replicate n (Value.int .i64 0) = rowI (fun _ => 0) n := by
  apply List.ext_getElem?
  intro i
  by_cases hi : i < n
  · rw [rowI_get _ _ _ hi]; simp [hi]
  · simp [rowI, fnI, hi]
theorem RowB.slI {W : World} {B : Nat} {t : TypeId} {φ : Nat → Int} {n : Nat} (h : RowB W B t (rowI φ n)) (hl : n ≤ 9223372036854775807) : Sl W 1 (some ⟨B, 0, none⟩) n n B 0 ((fnI φ n).map (.int .i64)) := by
  have := h.sl (by rw [rowI_len]; exact hl)
  rw [rowI_len] at this
  exact this
theorem RowB.putObj {W : World} {B : Nat} {t : TypeId} {vs : List Value} (h : RowB W B t vs) (D : Nat) (o : Obj) (hne : D ≠ B) : RowB (W.putObj D o) B t vs := (World.putObj_heap_other (fun e => hne e.symm)).trans h
/-- 'make([]T, n)', T of one cell. -/
theorem run_makeZ {P : Program} (w : World) (t e : TypeId) (i : TypeInfo) (z : Value) (h1 : P.underlying t = some (.slice e)) (h2 : P.info? e = some i) (h3 : i.zero = some z) (h4 : i.size = 1) (hz : z.cells = #[z])
    (kl kc : IntKind) (n : Nat) (b2 : i.bytes * n ≤ 281474976710656) (b3 : n ≤ 9223372036854775807) :
    (Instr.makeSlice t (.int kl (n : Int)) (.int kc (n : Int))).run P w = .ok (.slice (some ⟨w.heap.size, 0, none⟩) n n) (w.alloc (.cells (List.replicate n z).toArray e)) := by
  have hb : (i.bytes : Int) * (n : Int) ≤ 281474976710656 := by
    have h : ((i.bytes * n : Nat) : Int) ≤ 281474976710656 := by omega
    rwa [Int.natCast_mul] at h
  have := run_make (P := P) w t e i z h1 h2 h3 kl kc (n : Int) (n : Int) (by omega) (by omega) hb (by omega)
  rw [this, Int.toNat_natCast, h4, Nat.mul_one, hz]
  congr 2
  rw [← toList_madeCells_one]
theorem wpListIn_makeZ {F : Fence} {m : Nat} {P : Program} (w : World) {ops : Array Oper} {rest : List Oper} {o : Oper} {a : Act} {Q : Exit → Act → World → Prop}
    (hg : o.guard = none) (l c : Operand) (t : TypeId) (hop : o.op = Op.makeSlice t l c)
    (e : TypeId) (i : TypeInfo) (z : Value) (h1 : P.underlying t = some (.slice e)) (h2 : P.info? e = some i) (h3 : i.zero = some z) (h4 : i.size = 1) (hz : z.cells = #[z])
    (kl kc : IntKind) (L C : Int) (n : Nat) (hl : a.eval l = .int kl L) (hc : a.eval c = .int kc C) (hL : L = (n : Int)) (hC : C = (n : Int)) (b2 : i.bytes * n ≤ 281474976710656) (b3 : n ≤ 9223372036854775807)
    (hK : wpListIn F m P ops Q rest (a.put o.dst (.slice (some ⟨w.heap.size, 0, none⟩) n n)) (w.alloc (.cells (List.replicate n z).toArray e))) :
    wpListIn F m P ops Q (o :: rest) a w := by
  refine wpListIn_plain hg fun K hK' => ?_
  have hrun := run_makeZ (P := P) w t e i z h1 h2 h3 h4 hz kl kc n b2 b3
  subst hL hC
  unfold Oper.wpIn
  refine ⟨?_, ?_⟩
  · simp [Oper.about, hop]
  · rw [Oper.semAt_plain F _ _ (by rw [hop]; intro c hc'; cases hc')]
    simp [execOp, hop, hl, hc, hrun, Result.andThen]
    exact hK' _ _ hK
theorem wpList_makeZ {P : Program} (w : World) {ops : Array Oper} {rest : List Oper} {o : Oper} {a : Act} {Q : Exit → Act → World → Prop}
    (hg : o.guard = none) (l c : Operand) (t : TypeId) (hop : o.op = Op.makeSlice t l c)
    (e : TypeId) (i : TypeInfo) (z : Value) (h1 : P.underlying t = some (.slice e)) (h2 : P.info? e = some i) (h3 : i.zero = some z) (h4 : i.size = 1) (hz : z.cells = #[z])
    (kl kc : IntKind) (L C : Int) (n : Nat) (hl : a.eval l = .int kl L) (hc : a.eval c = .int kc C) (hL : L = (n : Int)) (hC : C = (n : Int)) (b2 : i.bytes * n ≤ 281474976710656) (b3 : n ≤ 9223372036854775807)
    (hK : wpList P ops Q rest (a.put o.dst (.slice (some ⟨w.heap.size, 0, none⟩) n n)) (w.alloc (.cells (List.replicate n z).toArray e))) :
    wpList P ops Q (o :: rest) a w := by
  refine wpList_plain hg fun K hK' => ?_
  have hrun := run_makeZ (P := P) w t e i z h1 h2 h3 h4 hz kl kc n b2 b3
  subst hL hC
  unfold Oper.wp
  simp [execOp, hop, hl, hc, hrun, Result.andThen]
  exact hK' _ _ hK
end Go.Proofs.Ytkpdimbblcmnaaa
