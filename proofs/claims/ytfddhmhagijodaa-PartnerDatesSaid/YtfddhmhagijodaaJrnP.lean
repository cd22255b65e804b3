/- Entries of journals with their lines in memory, and the list of the places of their lines. -/
import Derived.Test.YtfddhmhagijodaaPlcP
namespace Go.Proofs.Ytfddhmhagijodaa
open Go.RowKit
set_option linter.unusedSimpArgs false
set_option linter.unusedVariables false

structure Ln where
  acc : Int
  amt : Int
  ptn : Int
deriving DecidableEq, Inhabited
def Ln.cells (l : Ln) : List Value := [.int .i64 l.acc, .int .i64 l.amt, .int .i64 l.ptn]
theorem Ln.len (l : Ln) : l.cells.length = 3 := rfl
/-- An entry of a journal. -/
structure Jrn where
  id : Int
  ent : Int
  date : Int
  kind : Int
  of_ : Int
  text : ByteArray
  lines : List Ln
/-- An entry with the place of its lines. -/
structure JV where
  x : Jrn
  a : Option Addr
  c : Nat
  b : Nat
  o : Nat
def JV.cells (e : JV) : List Value := [.int .i64 e.x.id, .int .i64 e.x.ent, .int .i64 e.x.date, .int .i64 e.x.kind, .int .i64 e.x.of_, .string e.x.text, .slice e.a e.x.lines.length e.c]
theorem JV.len (e : JV) : e.cells.length = 7 := rfl
/-- Entries in memory. -/
structure Jrns (w : World) (es : List JV) (ao : Option Addr) (cap b o : Nat) : Prop where
  row : Recs w 7 JV.cells ao es cap b o
  lines : ∀ e ∈ es, Recs w 3 Ln.cells e.a e.x.lines e.c e.b e.o
theorem Jrns.keeps {w w' : World} {es : List JV} {ao : Option Addr} {cap b o : Nat} (h : Jrns w es ao cap b o) (k : Keeps w w') : Jrns w' es ao cap b o :=
  ⟨h.row.keeps k, fun e he => (h.lines e he).keeps k⟩

/-- The places of the lines from the k-th on of the i-th entry. -/
def lnsAt (x : Jrn) (i : Nat) : Nat → List Ln → List Plc
  | _, [] => []
  | k, l :: t => ⟨x.id, k, x.date, i, x.ent, l.acc, l.amt, l.ptn⟩ :: lnsAt x i (k + 1) t
theorem lnsAt_snoc (x : Jrn) (i : Nat) (l : Ln) : ∀ (t : List Ln) (k : Nat), lnsAt x i k (t ++ [l]) = lnsAt x i k t ++ [⟨x.id, (k + t.length : Nat), x.date, i, x.ent, l.acc, l.amt, l.ptn⟩]
  | [], k => by simp [lnsAt]
  | a :: t, k => by
    rw [List.cons_append, lnsAt, lnsAt_snoc x i l t (k + 1), lnsAt, List.cons_append, List.length_cons]
    have : k + 1 + t.length = k + (t.length + 1) := by omega
    rw [this]
theorem lnsAt_length (x : Jrn) (i : Nat) : ∀ (t : List Ln) (k : Nat), (lnsAt x i k t).length = t.length
  | [], k => rfl
  | a :: t, k => by rw [lnsAt, List.length_cons, lnsAt_length x i t (k + 1), List.length_cons]
theorem lnsAt_mem (x : Jrn) (i : Nat) : ∀ (t : List Ln) (k : Nat) (p : Plc), p ∈ lnsAt x i k t → p.at_ = i ∧ (k : Int) ≤ p.idx
  | [], k, p, h => absurd h List.not_mem_nil
  | a :: t, k, p, h => by
    rw [lnsAt] at h
    rcases List.mem_cons.1 h with rfl | h
    · exact ⟨rfl, Int.le_refl _⟩
    · have := lnsAt_mem x i t (k + 1) p h
      exact ⟨this.1, by omega⟩
theorem lnsAt_apart (x : Jrn) (i : Nat) : ∀ (t : List Ln) (k : Nat), (lnsAt x i k t).Pairwise (fun a b => cmpP a b ≠ 0)
  | [], k => List.Pairwise.nil
  | a :: t, k => by
    rw [lnsAt, List.pairwise_cons]
    refine ⟨fun p hp => ?_, lnsAt_apart x i t (k + 1)⟩
    have := lnsAt_mem x i t (k + 1) p hp
    rw [Ne, cmpP_zero]
    simp only
    omega
/-- The places of an entry up to a date. -/
def jPls (date : Int) (i : Nat) (x : Jrn) : List Plc := if x.date > date then [] else lnsAt x i 0 x.lines
/-- The places of entries up to a date, the first one's number being i. -/
def plsAt (date : Int) : Nat → List Jrn → List Plc
  | _, [] => []
  | i, x :: t => jPls date i x ++ plsAt date (i + 1) t
theorem plsAt_snoc (date : Int) (x : Jrn) : ∀ (t : List Jrn) (i : Nat), plsAt date i (t ++ [x]) = plsAt date i t ++ jPls date (i + t.length) x
  | [], i => by simp [plsAt]
  | a :: t, i => by
    rw [List.cons_append, plsAt, plsAt_snoc date x t (i + 1), plsAt, List.append_assoc, List.length_cons]
    have : i + 1 + t.length = i + (t.length + 1) := by omega
    rw [this]
theorem jPls_mem {date : Int} {i : Nat} {x : Jrn} {p : Plc} (h : p ∈ jPls date i x) : p.at_ = i := by
  unfold jPls at h
  split at h
  · exact absurd h List.not_mem_nil
  · exact (lnsAt_mem x i _ _ p h).1
theorem plsAt_mem (date : Int) : ∀ (t : List Jrn) (i : Nat) (p : Plc), p ∈ plsAt date i t → (i : Int) ≤ p.at_
  | [], i, p, h => absurd h List.not_mem_nil
  | a :: t, i, p, h => by
    rw [plsAt] at h
    rcases List.mem_append.1 h with h | h
    · rw [jPls_mem h]; exact Int.le_refl _
    · have := plsAt_mem date t (i + 1) p h
      omega
theorem plsAt_apart (date : Int) : ∀ (t : List Jrn) (i : Nat), (plsAt date i t).Pairwise (fun a b => cmpP a b ≠ 0)
  | [], i => List.Pairwise.nil
  | a :: t, i => by
    rw [plsAt, List.pairwise_append]
    refine ⟨?_, plsAt_apart date t (i + 1), fun p hp q hq => ?_⟩
    · unfold jPls
      split
      · exact List.Pairwise.nil
      · exact lnsAt_apart a i _ _
    · have h1 := jPls_mem hp
      have h2 := plsAt_mem date t (i + 1) q hq
      rw [Ne, cmpP_zero]
      omega
/-- The places of entries up to a date, in order. -/
def places (date : Int) (l : List Jrn) : List Plc := sortPl (plsAt date 0 l)
theorem plsAt_len (date : Int) (m : Nat) : ∀ (t : List Jrn) (i : Nat), (∀ x ∈ t, x.lines.length ≤ m) → (plsAt date i t).length ≤ t.length * m
  | [], i, _ => by simp [plsAt]
  | a :: t, i, h => by
    have h1 := plsAt_len date m t (i + 1) (fun x hx => h x (List.mem_cons_of_mem _ hx))
    have h2 := h a (List.mem_cons_self ..)
    have h3 : (jPls date i a).length ≤ m := by
      unfold jPls
      split
      · simp
      · rw [lnsAt_length]; exact h2
    rw [plsAt, List.length_append, List.length_cons, Nat.add_mul, Nat.one_mul]
    omega
theorem jPls_filter (date late : Int) (h : date ≤ late) (i : Nat) (x : Jrn) : (jPls late i x).filter (fun p => decide (p.date ≤ date)) = jPls date i x := by
  have hd : ∀ (t : List Ln) (k : Nat), ∀ p ∈ lnsAt x i k t, p.date = x.date := by
    intro t
    induction t with
    | nil => intro k p hp; exact absurd hp List.not_mem_nil
    | cons a t ih =>
      intro k p hp
      rw [lnsAt] at hp
      rcases List.mem_cons.1 hp with rfl | hp
      · rfl
      · exact ih _ p hp
  unfold jPls
  split
  · rw [if_pos (by omega)]; rfl
  · split
    · rw [List.filter_eq_nil_iff]
      intro p hp
      rw [hd _ _ p hp]; simp; omega
    · rw [List.filter_eq_self]
      intro p hp
      rw [hd _ _ p hp]; simp; omega
theorem plsAt_filter (date late : Int) (h : date ≤ late) : ∀ (t : List Jrn) (i : Nat), (plsAt late i t).filter (fun p => decide (p.date ≤ date)) = plsAt date i t
  | [], i => rfl
  | a :: t, i => by rw [plsAt, List.filter_append, jPls_filter date late h, plsAt_filter date late h t (i + 1), plsAt]
/-- The places up to an earlier date are those of the places up to a later one that pass. -/
theorem places_filter (date late : Int) (h : date ≤ late) (l : List Jrn) : places date l = (places late l).filter (fun p => decide (p.date ≤ date)) := by
  unfold places
  rw [← plsAt_filter date late h, sortPl_filter (plsAt_apart late l 0)]
end Go.Proofs.Ytfddhmhagijodaa
