/- The law on reversed entries, plain. No program is walked; An entry that a law builds in a box: its lines are appended in a cell of it. No program is walked. -/
import Derived.Test.YtfddhmhagijodaaPOfW
import Derived.Test.YtfddhmhagijodaaPDatQ
namespace Go.Proofs.Ytfddhmhagijodaa
set_option linter.unusedSimpArgs false
set_option linter.unusedVariables false

/-- A line with its amount negated; an entry that has its lines so. -/
def Ln.neg (l : Ln) : Ln := ⟨l.acc, wr64 (-l.amt), l.ptn⟩
def Jrn.rev (x : Jrn) : Jrn := ⟨wr64 (x.id + 1), x.ent, x.date, x.kind, x.of_, x.text, x.lines.map Ln.neg⟩
theorem lns_rev (en pt c : Int) (x : Jrn) (i j : Nat) : ∀ (t : List Ln) (k : Nat), (tot ((lnsAt x i k t).filter (fun p => !outsB en pt p)) c + tot ((lnsAt x.rev j k (t.map Ln.neg)).filter (fun p => !outsB en pt p)) c) % 18446744073709551616 = 0
  | [], k => rfl
  | l :: t, k => by
    have ih := lns_rev en pt c x i j t (k + 1)
    rw [List.map_cons, lnsAt, lnsAt, List.filter_cons, List.filter_cons]
    have e : outsB en pt ⟨x.rev.id, k, x.rev.date, j, x.rev.ent, l.neg.acc, l.neg.amt, l.neg.ptn⟩ = outsB en pt ⟨x.id, k, x.date, i, x.ent, l.acc, l.amt, l.ptn⟩ := rfl
    rw [e]
    split
    · rw [tot, tot]
      simp only [Ln.neg]
      by_cases h : l.acc = c
      · simp only [h, if_true]
        have : (l.amt + wr64 (-l.amt)) % 18446744073709551616 = 0 := by unfold wr64; omega
        omega
      · simp only [if_neg h]; omega
    · exact ih
theorem jt_rev (d en pt c : Int) (x : Jrn) : (jt d en pt c x + jt d en pt c x.rev) % 18446744073709551616 = 0 := by
  unfold jt jPls
  have e : x.rev.date = x.date := rfl
  rw [e]
  split
  · rfl
  · exact lns_rev en pt c x 0 0 x.lines 0
theorem rev_tot (d en pt c : Int) (l : List Jrn) (x : Jrn) : wr64 (tot (btw d en pt (l ++ [x, x.rev])) c) = wr64 (tot (btw d en pt l) c) := by
  rw [btw_tot, btw_tot, jts_append, jts, jts, jts]
  have := jt_rev d en pt c x
  unfold wr64
  omega
theorem rev_ok {x : Jrn} (h : x.Ok) : x.rev.Ok := by
  have hw : ∀ z, I64 (wr64 z) := fun z => wr64_rng z
  refine ⟨hw _, h.2.1, h.2.2.1, h.2.2.2.1, h.2.2.2.2.1, fun l hl => ?_⟩
  obtain ⟨m, hm, rfl⟩ := List.mem_map.1 hl
  have := h.2.2.2.2.2 m hm
  exact ⟨this.1, hw _, this.2.2⟩
/-- The law on the sums. -/
theorem rev_same {d en pt : Int} {l : List Jrn} {x : Jrn} {g h : List Bal} (h1 : NetZ (btw d en pt (l ++ [x, x.rev])) g) (h2 : NetZ (btw d en pt l) h) : g = h := netz_ext h1 h2 (fun c => rev_tot d en pt c l x)
end Go.Proofs.Ytfddhmhagijodaa

namespace Go.Proofs.Ytfddhmhagijodaa
open Go.RowKit
set_option linter.unusedSimpArgs false
set_option linter.unusedVariables false

def entC (x : Jrn) (id : Int) (v : Value) : List Value := [.int .i64 id, .int .i64 x.ent, .int .i64 x.date, .int .i64 x.kind, .int .i64 x.of_, .string x.text, v]
/-- An entry in box N, of which the lines ls are the call's own. -/
def YBx (W : World) (N : Nat) (x : Jrn) (id : Int) (v : Value) (ls : List Ln) : Prop := W.ownsRow (N + 1) 56 3 v ls.length (ls.flatMap Ln.cells) ∧ W.rangeAt N 0 (entC x id v) ∧ W.there N 0 7
theorem YBx.keeps {W W' : World} {N : Nat} {x : Jrn} {id : Int} {v : Value} {ls : List Ln} (h : YBx W N x id v ls) (k : Keeps W W') : YBx W' N x id v ls := ⟨own_keepsP h.1 k, range_keeps h.2.1 k, there_keeps h.2.2 k⟩
/-- The box, new. -/
theorem YBx.new (W : World) (x : Jrn) (id : Int) (ty : TypeId) : YBx (W.alloc (.cells (entC x id (.slice none 0 0)).toArray ty)) W.heap.size x id (.slice none 0 0) [] :=
  ⟨World.ownsRow_nil _ _ _ _, box_range W _ ty, there_newP W ty (entC x id (.slice none 0 0))⟩
/-- One line more. -/
theorem YBx.store {W W' : World} {N : Nat} {x : Jrn} {id : Int} {v v' : Value} {ls : List Ln} {l : Ln} (h : YBx W N x id v ls) (hb : Below (N + 1) W W') (ho : W'.ownsRow (N + 1) 56 3 v' (ls.length + 1) (ls.flatMap Ln.cells ++ l.cells)) : YBx (W'.setCell ⟨N, 6, none⟩ v') N x id v' (ls ++ [l]) := by
  refine ⟨?_, ?_, ?_⟩
  · have := own_otherP ho (p := ⟨N, 6, none⟩) (by simp) v'
    rw [List.length_append, List.flatMap_append]
    simpa using this
  · exact range_set (range_below h.2.1 (by omega) hb) (i := 6) (by simp [entC]) v'
  · exact there_set (vs := [v']) (B := N) (p := 6) (there_below h.2.2 (by omega) hb)
end Go.Proofs.Ytfddhmhagijodaa
