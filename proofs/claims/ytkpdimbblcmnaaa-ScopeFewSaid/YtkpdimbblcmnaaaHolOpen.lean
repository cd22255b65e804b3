/- Arguments opened: slices of holdings; a holding; two of them. (The first lemma is that of the guide's page on structs.) -/
import Derived.Test.YtkpdimbblcmnaaaRowB
import Derived.Test.YtkpdimbblcmnaaaKBase
import Derived.Test.YtkpdimbblcmnaaaHolValW
import Derived.Deep.Slices
import Derived.Deep.Fields
import Derived.ChangeSame
import Derived.Lib.SmallJoins
namespace Go.Proofs.Ytkpdimbblcmnaaa
open Go.ChangeShapes Go.WideShapes Go.Deep Go.Joins Go.RowKit
set_option linter.unusedVariables false

section
variable {H : Type} {enc : TypeId × Value → H} {P : Program} {w : World} {base : Nat} {spare : Nat → Bool} {held : Bool}
theorem open_slice_fields {t e : TypeId} {fs : Array Field} {fuel : Nat} {cs : List Value} {x : DataW H × List MemPlace} (ht : P.underlying t = some (.slice e)) (he : P.underlying e = some (.struct fs))
    (hone : oneCellFields P fs = true) (hC : P.cellsOf e = fs.size) (h : DataW.trod enc P w base spare held fuel t cs = some x) :
    (cs = [.slice none 0 0] ∧ x = (.nil, [])) ∨
    ∃ (a : Addr) (len cap m : Nat) (D : Nat → DataW H) (Pl : Nat → List MemPlace), cs = [.slice (some a) len cap] ∧ base ≤ a.block ∧ len ≤ cap ∧ cap ≤ maxLen ∧ m = (if spare a.block then cap else len) ∧
      x = (.slice ((List.range len).map D) ((List.range (m - len)).map fun j => D (len + j)), MemPlace.row a (m * fs.size) ++ (List.range m).flatMap Pl) ∧
      ∀ i, i < m → ∃ (ys : List (DataW H × List MemPlace)) (n : Nat), D i = .agg (ys.map (·.1)) ∧ Pl i = ys.flatMap (·.2) ∧ ys.length = fs.size ∧
        ∀ (j : Nat) (f : Field), fs[j]? = some f → ∃ (v : Value) (y : DataW H × List MemPlace), w.cell? (a.add (i * fs.size + j)) = some v ∧ ys[j]? = some y ∧ DataW.trod enc P w base spare held n f.type [v] = some y := by
  rcases open_slice ht h with h0 | ⟨a, len, cap, m, n, D, Pl, hcs, hb, hl, hm, hmm, hx, hi⟩
  · exact .inl h0
  · refine .inr ⟨a, len, cap, m, D, Pl, hcs, hb, hl, hm, hmm, by rw [hC] at hx; exact hx, fun i him => ?_⟩
    obtain ⟨cs', hc, ht'⟩ := hi i him
    rw [hC] at hc
    obtain ⟨ys, n', hn', hy, hlen, hyl, hf⟩ := DataW.trod_struct he ht'
    obtain ⟨_, hcl, hat⟩ := World.cells?_some hc
    simp only [Prod.mk.injEq] at hy
    refine ⟨ys, n', hy.1, hy.2, hyl, fun j f hj => ?_⟩
    obtain ⟨ho, hk⟩ := hone_of hone j f hj
    have hjl : j < fs.size := (Array.getElem?_eq_some_iff.1 hj).1
    have hcell := hat j hjl
    have hv : cs'[j]? = some (cs'[j]'(by omega)) := List.getElem?_eq_getElem (by omega)
    have h1 := hf j f hj
    rw [ho, hk] at h1
    have hone' : (cs'.drop j).take 1 = [cs'[j]'(by omega)] := by
      rw [List.drop_eq_getElem_cons (by omega)]
      rfl
    rw [hone'] at h1
    have hys : ys[j]? = some (ys[j]'(by omega)) := List.getElem?_eq_getElem (by omega)
    refine ⟨_, _, ?_, hys, h1.trans hys⟩
    rw [← Go.Deep.add_add, hcell, hv]
end
theorem exists_list {α : Type} {n : Nat} {Q : Nat → α → Prop} (h : ∀ i, i < n → ∃ a, Q i a) : ∃ l : List α, l.length = n ∧ ∀ i (hi : i < l.length), Q i l[i] := by
  induction n with
  | zero => exact ⟨[], rfl, fun i hi => absurd hi (Nat.not_lt_zero _)⟩
  | succ n ih =>
    obtain ⟨l, hl, hq⟩ := ih fun i hi => h i (by omega)
    obtain ⟨a, ha⟩ := h n (by omega)
    refine ⟨l ++ [a], by simp [hl], fun i hi => ?_⟩
    by_cases hin : i < l.length
    · rw [List.getElem_append_left hin]; exact hq i hin
    · have : i = l.length := by simp at hi; omega
      subst this
      rw [List.getElem_append_right (Nat.le_refl _)]
      simpa [hl] using ha

def isI64 (P : Program) (t : TypeId) : Bool := match P.underlying t with | some (.int .i64) => true | _ => false
theorem isI64_of {P : Program} {t : TypeId} (h : isI64 P t = true) : P.underlying t = some (.int .i64) := by
  unfold isI64 at h
  split at h
  · assumption
  · cases h

section
variable {H : Type} {enc : TypeId × Value → H} {P : Program} {w : World} {base : Nat} {spare : Nat → Bool} {held : Bool}
/-- A slice of records of ints. -/
theorem open_recs {t e : TypeId} {fs : Array Field} {fuel : Nat} {v : Value} {x : DataW H × List MemPlace} (sz : Nat) (ht : P.underlying t = some (.slice e)) (he : P.underlying e = some (.struct fs))
    (hone : oneCellFields P fs = true) (hC : P.cellsOf e = fs.size) (hint : fs.all (fun f => isI64 P f.type) = true) (hsz : fs.size = sz) (hs0 : 0 < sz) (h : DataW.trod enc P w base spare held fuel t [v] = some x) :
    ∃ (L : List (List Int)) (ao : Option Addr) (cap b o : Nat), v = .slice ao L.length cap ∧ Sl w sz ao L.length cap b o (L.flatMap fun r => r.map (.int .i64)) ∧ ∀ r ∈ L, r.length = sz ∧ ∀ z ∈ r, I64 z := by
  subst hsz
  rcases open_slice_fields ht he hone hC h with ⟨hcs, _⟩ | ⟨a, len, cap, m, D, Pl, hcs, _, hl, hm, hmm, _, hi⟩
  · simp only [List.cons.injEq, and_true] at hcs
    subst hcs
    exact ⟨[], none, 0, 0, 0, rfl, Sl.nil _ _, by simp⟩
  · simp only [List.cons.injEq, and_true] at hcs
    subst hcs
    have hlm : len ≤ m := by rw [hmm]; split <;> omega
    have hrec : ∀ i, i < len → ∃ r : List Int, r.length = fs.size ∧ ∀ j (hj : j < r.length), w.cell? (a.add (i * fs.size + j)) = some (.int .i64 r[j]) ∧ I64 r[j] := by
      intro i hil
      obtain ⟨ys, n, _, _, hyl, hf⟩ := hi i (by omega)
      obtain ⟨r, hr, hq⟩ := exists_list (n := fs.size) (Q := fun j z => w.cell? (a.add (i * fs.size + j)) = some (.int .i64 z) ∧ I64 z) (by
        intro j hj
        have hfj : fs[j]? = some fs[j] := Array.getElem?_eq_getElem hj
        obtain ⟨u, y, hc, _, htr⟩ := hf j fs[j] hfj
        have hty := isI64_of (Array.all_eq_true.1 hint j hj)
        obtain ⟨z, hz, _, hwf⟩ := DataW.trod_int hty htr
        simp only [List.cons.injEq, and_true] at hz
        subst hz
        exact ⟨z, hc, wf64.1 hwf⟩)
      exact ⟨r, hr, hq⟩
    obtain ⟨L, hL, hq⟩ := exists_list hrec
    have hmem : ∀ r ∈ L, r.length = fs.size ∧ ∀ z ∈ r, I64 z := fun r hr => by
      obtain ⟨i, hi', rfl⟩ := List.getElem_of_mem hr
      refine ⟨(hq i hi').1, fun z hz => ?_⟩
      obtain ⟨j, hj, rfl⟩ := List.getElem_of_mem hz
      exact ((hq i hi').2 j hj).2
    have hmx : cap ≤ 9223372036854775807 := by unfold maxLen at hm; exact hm
    have hfl : ∀ M : List (List Int), (∀ r ∈ M, r.length = fs.size) → (M.flatMap fun r => r.map (Value.int .i64)).length = M.length * fs.size := by
      intro M
      induction M with
      | nil => simp
      | cons r M ih =>
        intro h
        rw [List.flatMap_cons, List.length_append, List.length_map, h r (by simp), ih (fun q hq => h q (by simp [hq])), List.length_cons, Nat.add_mul]
        omega
    have hget : ∀ (M : List (List Int)), (∀ r ∈ M, r.length = fs.size) → ∀ q u, (M.flatMap fun r => r.map (Value.int .i64))[q]? = some u → ∃ i j, ∃ (hi : i < M.length) (hj : j < M[i].length), q = i * fs.size + j ∧ u = .int .i64 M[i][j] := by
      intro M
      induction M with
      | nil => intro _ q u hu; simp at hu
      | cons r M ih =>
        intro h q u hu
        rw [List.flatMap_cons] at hu
        by_cases hqr : q < r.length
        · rw [List.getElem?_append_left (by simpa using hqr), List.getElem?_map, List.getElem?_eq_getElem hqr] at hu
          exact ⟨0, q, by simp, by simpa using hqr, by simp, by simpa using hu.symm⟩
        · rw [List.getElem?_append_right (by simpa using hqr), List.length_map] at hu
          obtain ⟨i, j, hi', hj', e1, e2⟩ := ih (fun p hp => h p (by simp [hp])) _ _ hu
          have hr := h r (by simp)
          refine ⟨i + 1, j, by simpa using hi', by simpa using hj', ?_, by simpa using e2⟩
          rw [Nat.add_mul]; omega
    obtain ⟨⟨ab, ao, an⟩, ha⟩ : ∃ ad : Addr, a = ad := ⟨a, rfl⟩
    subst ha
    rcases Nat.eq_zero_or_pos (len * fs.size) with h0 | h0
    · refine ⟨L, _, cap, ab, ao, by rw [hL], ⟨hfl L fun r hr => (hmem r hr).1, by omega, (fun h => by cases h), hmx, fun hpos => ?_, fun q u hu => ?_⟩, hmem⟩
      · exact absurd h0 (by have := Nat.mul_pos (show 0 < len by omega) hs0; omega)
      · exfalso
        have := (List.getElem?_eq_some_iff.1 hu).1
        rw [hfl L fun r hr => (hmem r hr).1, hL, h0] at this
        omega
    · have hLp : 0 < len := by rcases Nat.eq_zero_or_pos len with h | h; simp [h] at h0; exact h
      have hfp : 0 < fs.size := by rcases Nat.eq_zero_or_pos fs.size with h | h; simp [h] at h0; exact h
      obtain ⟨hr0, hc0⟩ := hq 0 (by omega)
      have hc00 := (hc0 0 (by omega)).1
      have han : an = none := by simpa [Addr.add] using World.cell?_spot hc00
      subst han
      refine ⟨L, _, cap, ab, ao, by rw [hL], ⟨hfl L fun r hr => (hmem r hr).1, by omega, (fun h => by cases h), hmx, fun _ => rfl, fun q u hu => ?_⟩, hmem⟩
      obtain ⟨i, j, hi', hj', rfl, rfl⟩ := hget L (fun r hr => (hmem r hr).1) q u hu
      have := ((hq i hi').2 j hj').1
      rw [Addr.add_lit] at this
      exact this
end

theorem conv_cells {α : Type} {L : List (List Int)} {f : List Int → α} {cells : α → List Value} (h : ∀ r ∈ L, cells (f r) = r.map (.int .i64)) : (L.map f).flatMap cells = L.flatMap fun r => r.map (.int .i64) := by
  rw [List.flatMap_map]
  induction L with
  | nil => rfl
  | cons r L ih => rw [List.flatMap_cons, List.flatMap_cons, h r (by simp), ih fun q hq => h q (by simp [hq])]
theorem i64_wf {k : Int} (h : (Lit.int .i64 k).wf = true) : I64 k := wf64.1 h
theorem cellsHol : Try.prog.cellsOf 46 = 4 := by kernel_rfl
section
variable {H : Type} {enc : TypeId × Value → H} {w : World} {base : Nat} {spare : Nat → Bool} {held : Bool}
theorem open_hols {fuel : Nat} {v : Value} {x : DataW H × List MemPlace} (h : DataW.trod enc Try.prog w base spare held fuel 23 [v] = some x) : ∃ l, HolL w v l ∧ ∀ a ∈ l, a.Ok := by
  obtain ⟨L, ao, cap, b, o, rfl, hs, hm⟩ := open_recs 4 Try.underlying23 Try.underlying46 (by kernel_rfl) (by kernel_rfl) (by kernel_rfl) rfl (by omega) h
  have hc : ∀ r ∈ L, Hol.cells (Hol.mk (r.getD 0 0) (r.getD 1 0) (r.getD 2 0) (r.getD 3 0)) = r.map (.int .i64) := fun r hr => by
    obtain ⟨h4, _⟩ := hm r hr
    match r, h4 with
    | [a, b, c, d], _ => rfl
  refine ⟨L.map fun r => ⟨r.getD 0 0, r.getD 1 0, r.getD 2 0, r.getD 3 0⟩, ⟨ao, cap, b, o, by rw [List.length_map], ?_⟩, fun a ha => ?_⟩
  · show Sl _ _ _ _ _ _ _ _
    rw [List.length_map, conv_cells hc]; exact hs
  · obtain ⟨r, hr, rfl⟩ := List.mem_map.1 ha
    obtain ⟨h4, h5⟩ := hm r hr
    match r, h4 with
    | [a, b, c, d], _ => exact ⟨h5 a (by simp), h5 b (by simp), h5 c (by simp), h5 d (by simp)⟩
set_option maxRecDepth 100000 in
theorem open_hol {r : Reach} {b0 : Nat} {v : Value} {d : DataW H} {p : List MemPlace} (hv : Value.okWide Try.prog w r b0 46 v) (h : DataW.Trod enc Try.prog w base spare held 46 v d p) : ∃ x : Hol, v = .agg #[.int .i64 x.holder, .int .i64 x.entity, .int .i64 x.date, .int .i64 x.share] ∧ x.Ok := by
  obtain ⟨c0, c1, c2, c3, y0, y1, y2, y3, m, rfl, _, _, g0, g1, g2, g3⟩ := Go.Joins.open_agg4 Try.underlying46 (by kernel_rfl) cellsHol hv h
  obtain ⟨z0, e0, _, w0⟩ := DataW.trod_int Try.underlying3 g0
  obtain ⟨z1, e1, _, w1⟩ := DataW.trod_int Try.underlying3 g1
  obtain ⟨z2, e2, _, w2⟩ := DataW.trod_int Try.underlying3 g2
  obtain ⟨z3, e3, _, w3⟩ := DataW.trod_int Try.underlying3 g3
  simp only [List.cons.injEq, and_true] at e0 e1 e2 e3
  subst e0 e1 e2 e3
  exact ⟨⟨z0, z1, z2, z3⟩, rfl, i64_wf w0, i64_wf w1, i64_wf w2, i64_wf w3⟩
end
end Go.Proofs.Ytkpdimbblcmnaaa
