/- Arguments opened: books, entries, references, queries. -/
import Derived.Test.YtfddhmhagijodaaRowB
import Derived.Test.YtfddhmhagijodaaPAwk
import Derived.Test.YtfddhmhagijodaaKeyR
import Derived.Deep.Slices
import Derived.Deep.Fields
import Derived.ChangeSame
import Derived.OpenShut
import Derived.Lib.SmallJoins
namespace Go.Proofs.Ytfddhmhagijodaa
open Go.ChangeShapes Go.WideShapes Go.Deep Go.Joins Go.RowKit
set_option linter.unusedVariables false
set_option linter.unusedSimpArgs false

theorem cell_one {P : Program} {w : World} {r : Reach} {base : Nat} {u : TypeId} {v : Value} (h : Cell.okWide P w r base u v) : v.oneCell' = true := by
  cases v <;> first | rfl | (exfalso; unfold Cell.okWide Cell.ok at h; split at h <;> simp_all)
/-- A match of two sides. -/
structure Mt where
  id : Int
  left : List Rf
  right : List Rf
  state : Int
structure MV where
  x : Mt
  al : Option Addr
  cl : Nat
  bl : Nat
  ol : Nat
  ar : Option Addr
  cr : Nat
  br : Nat
  or_ : Nat
def MV.cells (m : MV) : List Value := [.int .i64 m.x.id, .slice m.al m.x.left.length m.cl, .slice m.ar m.x.right.length m.cr, .int .i64 m.x.state]
theorem MV.len (m : MV) : m.cells.length = 4 := rfl
structure Mts (w : World) (ms : List MV) (ao : Option Addr) (cap b o : Nat) : Prop where
  row : Recs w 4 MV.cells ao ms cap b o
  left : ∀ m ∈ ms, Recs w 2 Rf.cells m.al m.x.left m.cl m.bl m.ol
  right : ∀ m ∈ ms, Recs w 2 Rf.cells m.ar m.x.right m.cr m.br m.or_
theorem Mts.keeps {w w' : World} {ms : List MV} {ao : Option Addr} {cap b o : Nat} (h : Mts w ms ao cap b o) (k : Keeps w w') : Mts w' ms ao cap b o :=
  ⟨h.row.keeps k, fun e he => (h.left e he).keeps k, fun e he => (h.right e he).keeps k⟩
def Mt.Ok (m : Mt) : Prop := (∀ r ∈ m.left, r.Ok) ∧ ∀ r ∈ m.right, r.Ok
theorem exists_listB {α : Type} {n : Nat} {Q : Nat → α → Prop} (h : ∀ i, i < n → ∃ a, Q i a) : ∃ l : List α, l.length = n ∧ ∀ i (hi : i < l.length), Q i l[i] := by
  induction n with
  | zero => exact ⟨[], rfl, fun i hi => absurd hi (Nat.not_lt_zero _)⟩
  | succ n ih =>
    obtain ⟨l, hl, hq⟩ := ih fun i hi => h i (by omega)
    obtain ⟨a, ha⟩ := h n (by omega)
    refine ⟨l ++ [a], by simp [hl], fun i hi => ?_⟩
    by_cases hin : i < l.length
    · rw [List.getElem_append_left hin]; exact hq i hin
    · have : i = l.length := by simp at hi; omega
      subst this
      rw [List.getElem_append_right (Nat.le_refl _)]
      simpa [hl] using ha
section
variable {H : Type} {enc : TypeId × Value → H} {P : Program} {w : World} {base : Nat} {spare : Nat → Bool} {held : Bool}
/-- A slice whose elements can be opened. -/
theorem open_rows {α : Type} {t e : TypeId} {fuel : Nat} {v : Value} {x : DataW H × List MemPlace} (en : α → List Value) (Q : α → Prop) (sz : Nat) (hs0 : 0 < sz) (he : ∀ a, (en a).length = sz) (ht : P.underlying t = some (.slice e)) (hC : P.cellsOf e = sz)
    (hE : ∀ fuel cs y, cs.length = sz → DataW.trod enc P w base spare held fuel e cs = some y → ∃ a, en a = cs ∧ Q a) (h : DataW.trod enc P w base spare held fuel t [v] = some x) :
    ∃ (l : List α) (ao : Option Addr) (cap b o : Nat), v = .slice ao l.length cap ∧ Recs w sz en ao l cap b o ∧ ∀ a ∈ l, Q a := by
  rcases open_slice ht h with ⟨hcs, _⟩ | ⟨a, len, cap, m, n, D, Pl, hcs, _, hl, hm, hmm, _, hi⟩
  · simp only [List.cons.injEq, and_true] at hcs
    subst hcs
    exact ⟨[], none, 0, 0, 0, rfl, Sl.nil _ _, by simp⟩
  · simp only [List.cons.injEq, and_true] at hcs
    subst hcs
    have hlm : len ≤ m := by rw [hmm]; split <;> omega
    obtain ⟨l, hln, hq⟩ := exists_listB (n := len) (Q := fun i (b : α) => (∀ j u, (en b)[j]? = some u → w.cell? (a.add (i * sz + j)) = some u) ∧ Q b) (fun i hil => by
      obtain ⟨cs', hc, ht'⟩ := hi i (by omega)
      rw [hC] at hc
      obtain ⟨_, hcl, hat⟩ := World.cells?_some hc
      obtain ⟨b, hb, hQ⟩ := hE _ _ _ hcl ht'
      refine ⟨b, fun j u hj => ?_, hQ⟩
      have hjs : j < sz := by have := (List.getElem?_eq_some_iff.1 hj).1; rw [he] at this; exact this
      have := hat j hjs
      rw [← Go.Deep.add_add, this, ← hb]
      exact hj)
    have hmx : cap ≤ 9223372036854775807 := by unfold maxLen at hm; exact hm
    have hmem : ∀ b ∈ l, Q b := fun b hb => by
      obtain ⟨i, hi', rfl⟩ := List.getElem_of_mem hb
      exact (hq i hi').2
    have hget : ∀ (M : List α), ∀ q u, (M.flatMap en)[q]? = some u → ∃ i j, ∃ (hi : i < M.length), q = i * sz + j ∧ (en M[i])[j]? = some u := by
      intro M
      induction M with
      | nil => intro q u hu; simp at hu
      | cons r M ih =>
        intro q u hu
        rw [List.flatMap_cons] at hu
        by_cases hqr : q < sz
        · rw [List.getElem?_append_left (by rw [he]; exact hqr)] at hu
          exact ⟨0, q, by simp, by simp, hu⟩
        · rw [List.getElem?_append_right (by rw [he]; omega), he] at hu
          obtain ⟨i, j, hi', e1, e2⟩ := ih _ _ hu
          refine ⟨i + 1, j, by simpa using hi', ?_, by simpa using e2⟩
          rw [Nat.add_mul]; omega
    obtain ⟨⟨ab, ao, an⟩, ha⟩ : ∃ ad : Addr, a = ad := ⟨a, rfl⟩
    subst ha
    rcases Nat.eq_zero_or_pos len with h0 | h0
    · have hle : l = [] := List.eq_nil_of_length_eq_zero (by omega)
      subst hle h0
      refine ⟨[], _, cap, ab, ao, rfl, ⟨by simp, by simp, (fun h => by cases h), hmx, fun hpos => absurd hpos (Nat.lt_irrefl _), fun q u hu => by simp at hu⟩, by simp⟩
    · have hz := he l[0]
      have hc00 := (hq 0 (by omega)).1 0 _ (List.getElem?_eq_getElem (by omega))
      have han : an = none := by simpa [Addr.add] using World.cell?_spot hc00
      subst han
      refine ⟨l, _, cap, ab, ao, by rw [hln], ⟨flat_length he l, by omega, (fun h => by cases h), hmx, fun _ => rfl, fun q u hu => ?_⟩, hmem⟩
      obtain ⟨i, j, hi', rfl, hu2⟩ := hget l q u hu
      have := (hq i hi').1 j u hu2
      rw [Addr.add_lit] at this
      exact this
end
section
variable {H : Type} {enc : TypeId × Value → H} {w : World} {base : Nat} {spare : Nat → Bool} {held : Bool}
theorem cInt : Try.prog.cellsOf 3 = 1 := by kernel_rfl
theorem cStr : Try.prog.cellsOf 9 = 1 := by kernel_rfl
theorem cLns : Try.prog.cellsOf 48 = 1 := by kernel_rfl
theorem cRfs : Try.prog.cellsOf 45 = 1 := by kernel_rfl
theorem cEns : Try.prog.cellsOf 30 = 1 := by kernel_rfl
theorem cMts : Try.prog.cellsOf 33 = 1 := by kernel_rfl
theorem cRf : Try.prog.cellsOf 59 = 2 := by kernel_rfl
theorem cLn : Try.prog.cellsOf 56 = 3 := by kernel_rfl
theorem cEn : Try.prog.cellsOf 50 = 7 := by kernel_rfl
theorem cMt : Try.prog.cellsOf 70 = 4 := by kernel_rfl
theorem cBk : Try.prog.cellsOf 36 = 27 := by kernel_rfl
theorem cGr : Try.prog.cellsOf 29 = 21 := by kernel_rfl
theorem open_i {n : Nat} {v : Value} {y : DataW H × List MemPlace} (h : DataW.trod enc Try.prog w base spare held n 3 [v] = some y) : ∃ z, v = .int .i64 z ∧ I64 z := by
  obtain ⟨z, e, _, wf⟩ := DataW.trod_int Try.underlying3 h
  simp only [List.cons.injEq, and_true] at e
  exact ⟨z, e, wf64.1 wf⟩
theorem open_rf {fuel : Nat} {cs : List Value} {y : DataW H × List MemPlace} (hl : cs.length = 2) (h : DataW.trod enc Try.prog w base spare held fuel 59 cs = some y) : ∃ a : Rf, a.cells = cs ∧ a.Ok := by
  match cs, hl with
  | [v0, v1], _ =>
    obtain ⟨xs, n, _, _, _, hlen, hg⟩ := DataW.trod_struct Try.underlying59 h
    match xs, hlen with
    | [y0, y1], _ =>
      obtain ⟨z0, rfl, w0⟩ := open_i (show DataW.trod enc Try.prog w base spare held n 3 [v0] = some y0 by simpa [cInt] using hg 0 _ rfl)
      obtain ⟨z1, rfl, w1⟩ := open_i (show DataW.trod enc Try.prog w base spare held n 3 [v1] = some y1 by simpa [cInt] using hg 1 _ rfl)
      exact ⟨⟨z0, z1⟩, rfl, w0, w1⟩
theorem open_ln {fuel : Nat} {cs : List Value} {y : DataW H × List MemPlace} (hl : cs.length = 3) (h : DataW.trod enc Try.prog w base spare held fuel 56 cs = some y) : ∃ a : Ln, a.cells = cs ∧ a.Ok := by
  match cs, hl with
  | [v0, v1, v2], _ =>
    obtain ⟨xs, n, _, _, _, hlen, hg⟩ := DataW.trod_struct Try.underlying56 h
    match xs, hlen with
    | [y0, y1, y2], _ =>
      obtain ⟨z0, rfl, w0⟩ := open_i (show DataW.trod enc Try.prog w base spare held n 3 [v0] = some y0 by simpa [cInt] using hg 0 _ rfl)
      obtain ⟨z1, rfl, w1⟩ := open_i (show DataW.trod enc Try.prog w base spare held n 3 [v1] = some y1 by simpa [cInt] using hg 1 _ rfl)
      obtain ⟨z2, rfl, w2⟩ := open_i (show DataW.trod enc Try.prog w base spare held n 3 [v2] = some y2 by simpa [cInt] using hg 2 _ rfl)
      exact ⟨⟨z0, z1, z2⟩, rfl, w0, w1, w2⟩
def JV.In (w : World) (e : JV) : Prop := Recs w 3 Ln.cells e.a e.x.lines e.c e.b e.o ∧ e.x.Ok
theorem open_jv {fuel : Nat} {cs : List Value} {y : DataW H × List MemPlace} (hl : cs.length = 7) (h : DataW.trod enc Try.prog w base spare held fuel 50 cs = some y) : ∃ a : JV, a.cells = cs ∧ a.In w := by
  match cs, hl with
  | [v0, v1, v2, v3, v4, v5, v6], _ =>
    obtain ⟨xs, n, _, _, _, hlen, hg⟩ := DataW.trod_struct Try.underlying50 h
    match xs, hlen with
    | [y0, y1, y2, y3, y4, y5, y6], _ =>
      obtain ⟨z0, rfl, w0⟩ := open_i (show DataW.trod enc Try.prog w base spare held n 3 [v0] = some y0 by simpa [cInt] using hg 0 _ rfl)
      obtain ⟨z1, rfl, w1⟩ := open_i (show DataW.trod enc Try.prog w base spare held n 3 [v1] = some y1 by simpa [cInt] using hg 1 _ rfl)
      obtain ⟨z2, rfl, w2⟩ := open_i (show DataW.trod enc Try.prog w base spare held n 3 [v2] = some y2 by simpa [cInt] using hg 2 _ rfl)
      obtain ⟨z3, rfl, w3⟩ := open_i (show DataW.trod enc Try.prog w base spare held n 3 [v3] = some y3 by simpa [cInt] using hg 3 _ rfl)
      obtain ⟨z4, rfl, w4⟩ := open_i (show DataW.trod enc Try.prog w base spare held n 3 [v4] = some y4 by simpa [cInt] using hg 4 _ rfl)
      obtain ⟨s5, e5, _⟩ := DataW.trod_string Try.underlying9 (show DataW.trod enc Try.prog w base spare held n 9 [v5] = some y5 by simpa [cStr] using hg 5 _ rfl)
      simp only [List.cons.injEq, and_true] at e5
      subst e5
      obtain ⟨l, ao, cap, b, o, rfl, hr, hok⟩ := open_rows Ln.cells Ln.Ok 3 (by omega) Ln.len Try.underlying48 cLn (fun _ _ _ h1 h2 => open_ln h1 h2) (show DataW.trod enc Try.prog w base spare held n 48 [v6] = some y6 by simpa [cLns] using hg 6 _ rfl)
      exact ⟨⟨⟨z0, z1, z2, z3, z4, s5, l⟩, ao, cap, b, o⟩, rfl, hr, w0, w1, w2, w3, w4, hok⟩
def MV.In (w : World) (m : MV) : Prop := Recs w 2 Rf.cells m.al m.x.left m.cl m.bl m.ol ∧ Recs w 2 Rf.cells m.ar m.x.right m.cr m.br m.or_ ∧ m.x.Ok
theorem open_mv {fuel : Nat} {cs : List Value} {y : DataW H × List MemPlace} (hl : cs.length = 4) (h : DataW.trod enc Try.prog w base spare held fuel 70 cs = some y) : ∃ a : MV, a.cells = cs ∧ a.In w := by
  match cs, hl with
  | [v0, v1, v2, v3], _ =>
    obtain ⟨xs, n, _, _, _, hlen, hg⟩ := DataW.trod_struct Try.underlying70 h
    match xs, hlen with
    | [y0, y1, y2, y3], _ =>
      obtain ⟨z0, rfl, w0⟩ := open_i (show DataW.trod enc Try.prog w base spare held n 3 [v0] = some y0 by simpa [cInt] using hg 0 _ rfl)
      obtain ⟨l1, ao1, cap1, b1, o1, rfl, hr1, hok1⟩ := open_rows Rf.cells Rf.Ok 2 (by omega) Rf.len Try.underlying45 cRf (fun _ _ _ h1 h2 => open_rf h1 h2) (show DataW.trod enc Try.prog w base spare held n 45 [v1] = some y1 by simpa [cRfs] using hg 1 _ rfl)
      obtain ⟨l2, ao2, cap2, b2, o2, rfl, hr2, hok2⟩ := open_rows Rf.cells Rf.Ok 2 (by omega) Rf.len Try.underlying45 cRf (fun _ _ _ h1 h2 => open_rf h1 h2) (show DataW.trod enc Try.prog w base spare held n 45 [v2] = some y2 by simpa [cRfs] using hg 2 _ rfl)
      obtain ⟨z3, rfl, w3⟩ := open_i (show DataW.trod enc Try.prog w base spare held n 3 [v3] = some y3 by simpa [cInt] using hg 3 _ rfl)
      exact ⟨⟨⟨z0, l1, l2, z3⟩, ao1, cap1, b1, o1, ao2, cap2, b2, o2⟩, rfl, hr1, hr2, hok1, hok2⟩
/-- Books: their cells, their entries, their matches. -/
structure Bks (w : World) (bv : List Value) (es : List JV) (ms : List MV) : Prop where
  len : bv.length = 27
  one : ∀ v ∈ bv, v.oneCell' = true
  ents : ∃ ao cap b o, bv[21]? = some (.slice ao es.length cap) ∧ Jrns w es ao cap b o
  mts : ∃ ao cap b o, bv[24]? = some (.slice ao ms.length cap) ∧ Mts w ms ao cap b o
  ok : ∀ e ∈ es, e.x.Ok
  mok : ∀ m ∈ ms, m.x.Ok
theorem Bks.keeps {w w' : World} {bv : List Value} {es : List JV} {ms : List MV} (h : Bks w bv es ms) (k : Keeps w w') : Bks w' bv es ms := by
  obtain ⟨ao, cap, b, o, h1, h2⟩ := h.ents
  obtain ⟨ao2, cap2, b2, o2, h3, h4⟩ := h.mts
  exact ⟨h.len, h.one, ⟨ao, cap, b, o, h1, h2.keeps k⟩, ⟨ao2, cap2, b2, o2, h3, h4.keeps k⟩, h.ok, h.mok⟩
set_option maxRecDepth 100000 in
theorem open_books {r : Reach} {b0 : Nat} {v : Value} {d : DataW H} {p : List MemPlace} (hv : Value.okWide Try.prog w r b0 36 v) (h : DataW.Trod enc Try.prog w base spare held 36 v d p) :
    ∃ bv es ms, v = .agg bv.toArray ∧ Bks w bv es ms := by
  simp only [Value.okWide, Try.underlying36] at hv
  obtain ⟨⟨bv⟩, rfl, hsz, ts, _, _, hone⟩ := hv
  have hlen : bv.length = 27 := hsz.trans cBk
  obtain ⟨fuel, hf⟩ := h
  obtain ⟨xs, n, _, _, _, hl, hg⟩ := DataW.trod_struct Try.underlying36 hf
  match xs, hl with
  | [y0, y1, y2, y3, y4, y5, y6], _ =>
    have g1 : DataW.trod enc Try.prog w base spare held n 30 ((bv.drop 21).take (Try.prog.cellsOf 30)) = some y1 := hg 1 _ rfl
    have g4 : DataW.trod enc Try.prog w base spare held n 33 ((bv.drop 24).take (Try.prog.cellsOf 33)) = some y4 := hg 4 _ rfl
    rw [cEns] at g1
    rw [cMts] at g4
    have t1 : (bv.drop 21).take 1 = [bv[21]'(by omega)] := by rw [List.drop_eq_getElem_cons (by omega)]; rfl
    have t4 : (bv.drop 24).take 1 = [bv[24]'(by omega)] := by rw [List.drop_eq_getElem_cons (by omega)]; rfl
    have h1 : DataW.trod enc Try.prog w base spare held n 30 [bv[21]'(by omega)] = some y1 := by rw [← t1]; exact g1
    have h4 : DataW.trod enc Try.prog w base spare held n 33 [bv[24]'(by omega)] = some y4 := by rw [← t4]; exact g4
    obtain ⟨es, ao1, cap1, b1, o1, e1, hr1, hq1⟩ := open_rows JV.cells (JV.In w) 7 (by omega) JV.len Try.underlying30 cEn (fun _ _ _ h1 h2 => open_jv h1 h2) h1
    obtain ⟨ms, ao4, cap4, b4, o4, e4, hr4, hq4⟩ := open_rows MV.cells (MV.In w) 4 (by omega) MV.len Try.underlying33 cMt (fun _ _ _ h1 h2 => open_mv h1 h2) h4
    refine ⟨bv, es, ms, rfl, hlen, fun u hu => ?_, ⟨ao1, cap1, b1, o1, by rw [List.getElem?_eq_getElem (by omega), e1], hr1, fun e he => (hq1 e he).1⟩, ⟨ao4, cap4, b4, o4, by rw [List.getElem?_eq_getElem (by omega), e4], hr4, fun e he => (hq4 e he).1, fun e he => (hq4 e he).2.1⟩, fun e he => (hq1 e he).2, fun e he => (hq4 e he).2.2⟩
    obtain ⟨i, hi, rfl⟩ := List.getElem_of_mem hu
    obtain ⟨u, _, hc⟩ := hone i bv[i] (by rw [show (⟨bv⟩ : Array Value) = bv.toArray from rfl, List.getElem?_toArray]; exact List.getElem?_eq_getElem hi)
    exact cell_one hc
end
end Go.Proofs.Ytfddhmhagijodaa
