/- The reach of books: how long the sides of their matches can be. No program is walked. -/
import Derived.Test.YtfddhmhagijodaaBkOpen
import Derived.SizedLaws
namespace Go.Proofs.Ytfddhmhagijodaa
open Go.ChangeShapes Go.WideShapes Go.Deep Go.Joins Go.RowKit
set_option linter.unusedVariables false
set_option linter.unusedSimpArgs false

section
variable {H : Type} {enc : TypeId × Value → H} {w : World} {base : Nat} {spare : Nat → Bool} {held : Bool}
theorem bytesRef : Try.prog.bytesOf 59 = 16 := by kernel_rfl
theorem sized_refs {fuel : Nat} {ao : Option Addr} {n cap : Nat} {y : DataW H × List MemPlace} (h : DataW.trod enc Try.prog w base spare held fuel 45 [.slice ao n cap] = some y) (hs : ∀ k ∈ y.1.weights Try.prog 45, k ≤ reachBytes) : n * 16 ≤ reachBytes := by
  rcases open_slice Try.underlying45 h with ⟨hcs, _⟩ | ⟨a, len, cp, m, k, D, Pl, hcs, _, hl, hm, hmm, hx, hi⟩
  · simp only [List.cons.injEq, and_true, Value.slice.injEq] at hcs
    rw [hcs.2.1]; simp
  · simp only [List.cons.injEq, and_true, Value.slice.injEq] at hcs
    obtain ⟨_, rfl, _⟩ := hcs
    rw [hx] at hs
    have := hs ((((List.range n).map D).length + ((List.range (m - n)).map fun j => D (n + j)).length) * Try.prog.bytesOf 59) (by simp [DataW.weights, Try.underlying45])
    rw [bytesRef, List.length_map, List.length_range] at this
    have h2 : n * 16 ≤ (n + ((List.range (m - n)).map fun j => D (n + j)).length) * 16 := Nat.mul_le_mul_right _ (by omega)
    omega
theorem weights_slice {elems sp : List (DataW H)} {t e : TypeId} (ht : Try.prog.underlying t = some (.slice e)) {d : DataW H} (hd : d ∈ elems) {n : Nat} (hn : n ∈ d.weights Try.prog e) : n ∈ (DataW.slice elems sp).weights Try.prog t := by
  have hall : ∀ (l : List (DataW H)), d ∈ l → n ∈ DataW.weightsAll Try.prog e l := by
    intro l
    induction l with
    | nil => intro h; exact absurd h List.not_mem_nil
    | cons a r ih =>
      intro h
      rw [DataW.weightsAll, List.mem_append]
      rcases List.mem_cons.1 h with rfl | h
      · exact .inl hn
      · exact .inr (ih h)
  simp only [DataW.weights, ht, List.mem_cons, List.mem_append]
  exact .inr (.inl (hall elems hd))
set_option maxRecDepth 100000 in
theorem books_sized {bv : List Value} {es : List JV} {ms : List MV} {d : DataW H} {p : List MemPlace} (h : DataW.Trod enc Try.prog w base spare held 36 (.agg bv.toArray) d p) (hb : Bks w bv es ms)
    (hs : ∀ n ∈ d.weights Try.prog 36, n ≤ reachBytes) : ∀ m ∈ ms, m.x.left.length * 16 ≤ reachBytes ∧ m.x.right.length * 16 ≤ reachBytes := by
  obtain ⟨ao, cap, b, o, he, hm⟩ := hb.mts
  have hbl := hb.len
  obtain ⟨fuel, hf⟩ := h
  obtain ⟨xs, n, _, hx, _, hl, hg⟩ := DataW.trod_struct Try.underlying36 hf
  simp only [Prod.mk.injEq] at hx
  obtain ⟨rfl, _⟩ := hx
  match xs, hl with
  | [y0, y1, y2, y3, y4, y5, y6], _ =>
    have g4 : DataW.trod enc Try.prog w base spare held n 33 ((bv.drop 24).take (Try.prog.cellsOf 33)) = some y4 := hg 4 _ rfl
    rw [cMts] at g4
    have t4 : (bv.drop 24).take 1 = [bv[24]'(by omega)] := by rw [List.drop_eq_getElem_cons (by omega)]; rfl
    rw [t4] at g4
    rw [List.getElem?_eq_getElem (by omega)] at he
    rw [Option.some.inj he] at g4
    have hs4 : ∀ k ∈ y4.1.weights Try.prog 33, k ≤ reachBytes := fun k hk => by
      refine hs k ?_
      simp only [DataW.weights, Try.underlying36]
      exact DataW.weights_mem_each (j := 4) rfl rfl k hk
    intro mm hmm
    obtain ⟨i, hi, rfl⟩ := List.getElem_of_mem hmm
    rcases open_slice Try.underlying33 g4 with ⟨hcs, _⟩ | ⟨a, len, cp, m, k, D, Pl, hcs, _, hll, hmx, hmm2, hx, hix⟩
    · simp only [List.cons.injEq, and_true, Value.slice.injEq] at hcs
      omega
    · simp only [List.cons.injEq, and_true, Value.slice.injEq] at hcs
      obtain ⟨rfl, hlen, _⟩ := hcs
      have ha := hm.row.addr (by omega)
      simp only [Option.some.injEq] at ha
      subst ha
      obtain ⟨cs, hc, ht⟩ := hix i (by rw [hmm2]; split <;> omega)
      rw [cMt] at hc
      obtain ⟨_, hcl, hat⟩ := World.cells?_some hc
      have hsi : ∀ k ∈ (D i).weights Try.prog 70, k ≤ reachBytes := fun k hk => by
        refine hs4 k ?_
        rw [hx]
        exact weights_slice Try.underlying33 (List.mem_map_of_mem (List.mem_range.2 (by omega))) hk
      have a1 := hat 1 (by omega)
      have a2 := hat 2 (by omega)
      rw [Go.Deep.add_add, Addr.add_lit] at a1 a2
      have c1 := hm.row.cell MV.len i hi 1 _ rfl
      have c2 := hm.row.cell MV.len i hi 2 _ rfl
      rw [Nat.add_assoc] at c1 c2
      rw [c1] at a1
      rw [c2] at a2
      match cs, hcl with
      | [v0, v1, v2, v3], _ =>
        simp only [List.getElem?_cons_succ, List.getElem?_cons_zero, Option.some.injEq] at a1 a2
        obtain ⟨zs, n2, _, hz, _, hzl, hzg⟩ := DataW.trod_struct Try.underlying70 ht
        match zs, hzl with
        | [z0, z1, z2, z3], _ =>
          simp only [Prod.mk.injEq] at hz
          rw [hz.1] at hsi
          have q1 : DataW.trod enc Try.prog w base spare held n2 45 [v1] = some z1 := by simpa [cRfs] using hzg 1 _ rfl
          have q2 : DataW.trod enc Try.prog w base spare held n2 45 [v2] = some z2 := by simpa [cRfs] using hzg 2 _ rfl
          rw [← a1] at q1
          rw [← a2] at q2
          refine ⟨sized_refs q1 fun k hk => hsi k ?_, sized_refs q2 fun k hk => hsi k ?_⟩
          · simp only [DataW.weights, Try.underlying70]
            exact DataW.weights_mem_each (j := 1) rfl rfl k hk
          · simp only [DataW.weights, Try.underlying70]
            exact DataW.weights_mem_each (j := 2) rfl rfl k hk
end
end Go.Proofs.Ytfddhmhagijodaa
