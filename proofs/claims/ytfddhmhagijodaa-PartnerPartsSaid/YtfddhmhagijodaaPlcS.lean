/- The stable sort of places at a row that the call owns. -/
import Derived.Test.YtfddhmhagijodaaStS
import Derived.Test.YtfddhmhagijodaaNetP
namespace Go.Proofs.Ytfddhmhagijodaa
open Go.RowKit Go.Shelf Go.Lib Go.Sort
set_option linter.unusedSimpArgs false
set_option linter.unusedVariables false

theorem flatK_flat (L : List Plc) : flatK Plc.cells 8 L.toArray = (L.flatMap Plc.cells).toArray := by
  refine ext_get! (by simp [flat_length Plc.len]) fun t ht => ?_
  have ht' : t < L.length * 8 := by simpa using ht
  rw [get_flatK _ _ _ t (by simpa using ht')]
  have hk : t / 8 < L.length := by omega
  have hj : t % 8 < 8 := by omega
  have hg := flat_get (enc := Plc.cells) (sz := 8) Plc.len L (t / 8) (t % 8) hk hj
  have e : t / 8 * 8 + t % 8 = t := by omega
  rw [e] at hg
  have h1 : L.toArray[t / 8]! = L[t / 8] := by simp [hk]
  rw [h1]
  have hl : t < (L.flatMap Plc.cells).length := by rw [flat_length Plc.len]; exact ht'
  have h2 : ((L.flatMap Plc.cells).toArray)[t]! = ((L.flatMap Plc.cells)[t]?).getD default := by rw [getElem!_pos _ t (by simpa using hl), List.getElem?_eq_getElem hl]; rfl
  rw [h2, hg]
  simp [List.getElem!_eq_getElem?_getD]
theorem holds_blockP {w : World} {g : Nat} {cur : Array Value} {e : TypeId} {L : List Plc} (hb : w.heap[g]? = some (.cells cur e (0, 0))) (ht : cur.toList.take (L.length * 8) = L.flatMap Plc.cells) : HoldsK Plc.cells 8 w g 0 L.toArray := by
  unfold HoldsK
  rw [flatK_flat]
  intro j hj
  have hj' : j < L.length * 8 := by simpa [flat_length Plc.len] using hj
  refine ⟨?_, by simp [World.frozen?, hb]⟩
  have h1 : (cur.toList.take (L.length * 8))[j]? = (L.flatMap Plc.cells)[j]? := by rw [ht]
  rw [List.getElem?_take_of_lt hj'] at h1
  have hl : j < (L.flatMap Plc.cells).length := by rw [flat_length Plc.len]; exact hj'
  simp only [World.cell?, hb, Nat.zero_add]
  simp only [Option.isSome_none, Bool.false_eq_true, if_false]
  rw [← Array.getElem?_toList, h1, getElem!_pos _ j (by simpa using hl), List.getElem?_eq_getElem hl]
  rfl
theorem heap_sortedP {w : World} {g n : Nat} {os : Array Obj} {cur : Array Value} {e : TypeId} {fr : Nat × Nat} (d : Array Plc) (hb : w.heap[g]? = some (.cells cur e fr)) :
    (grow (putRowK Plc.cells 8 (Sort.ahead w n) g 0 d) os).heap[g]? = some (.cells (putCells id 0 (flatK Plc.cells 8 d) cur) e fr) := by
  have hg : g < w.heap.size := (Array.getElem?_eq_some_iff.1 hb).1
  unfold putRowK
  rw [heap_grow_old _ _ (by simpa using hg)]
  simp [putRow, mapBlock, Sort.ahead, Array.getElem?_modify, hb, onCells]
theorem grownBy_sortedP {w : World} {g n : Nat} {os : Array Obj} (d : Array Plc) : w.grownBy (grow (putRowK Plc.cells 8 (Sort.ahead w n) g 0 d) os) (some g) := by
  refine ⟨rfl, rfl, rfl, by simp [putRowK], fun k hk hne => ?_⟩
  unfold putRowK
  rw [heap_grow_old _ _ (by simpa using hk)]
  have : g ≠ k := fun e => hne (by rw [e])
  simp [putRow, mapBlock, Sort.ahead, Array.getElem?_modify, this]
theorem take_putCellsP (cur : Array Value) (F : List Value) (h : F.length ≤ cur.size) : (putCells id 0 F.toArray cur).toList.take F.length = F := by
  apply List.ext_getElem?
  intro j
  by_cases hj : j < F.length
  · rw [List.getElem?_take_of_lt hj, Array.getElem?_toList]
    simp [putCells, hj, show j < cur.size by omega]
  · rw [List.getElem?_take_eq_none (by omega), List.getElem?_eq_none (by omega)]
theorem sortPl_length {L : List Plc} : (sortPl L).length = L.length := by
  have h1 : ∀ (p : Plc) (l : List Plc), (insP p l).length = l.length + 1 := by
    intro p l
    induction l with
    | nil => rfl
    | cons q t ih => unfold insP; split <;> simp [ih]
  have h2 : ∀ (M out : List Plc), (M.foldl (fun out p => insP p out) out).length = out.length + M.length := by
    intro M
    induction M with
    | nil => intro out; rfl
    | cons p M ih => intro out; rw [List.foldl_cons, ih, h1, List.length_cons]; omega
  rw [sortPl, h2]; simp
/-- The sort at a row that the call owns. -/
theorem psort_own (w : World) (base e g cap : Nat) (L : List Plc) (h : w.ownsRow base e 8 (.slice (some ⟨g, 0, none⟩) L.length cap) L.length (L.flatMap Plc.cells)) (hd : L.Pairwise (fun a b => cmpP a b ≠ 0)) (hn : L.length ≤ 100000) :
    Calls Try.prog 51 #[.slice (some ⟨g, 0, none⟩) L.length cap, .func (.func 52) #[] #[]] w
      fun ed w' => ed = .returned (.tuple #[]) ∧ w'.ownsRow base e 8 (.slice (some ⟨g, 0, none⟩) L.length cap) L.length ((sortPl L).flatMap Plc.cells) ∧ w.grownBy w' (some g) := by
  obtain ⟨g', cap', cur, ev, hbase, hb, h1, h2, h3, ht⟩ := h.2.resolve_left (fun hh => by simp at hh)
  obtain ⟨rfl, rfl⟩ : g = g' ∧ cap = cap' := by simpa using ev
  have hg : g < w.heap.size := (Array.getElem?_eq_some_iff.1 hb).1
  have hH : HoldsK Plc.cells 8 w g 0 L.toArray := holds_blockP hb ht
  have hR : SR w g 0 L.length 8 := ⟨rfl, L.toArray, by simp, ⟨Plc.len, Plc.one, hH, hg⟩⟩
  let pl : Int → Plc := fun i => L[i.toNat]!
  have hpl : ∀ i (hi : i < L.length), pl (i : Nat) = L[i] := fun i hi => by show L[((i : Nat) : Int).toNat]! = L[i]; simp [hi]
  have hST : ST w g 0 L.length 8 pl (fun i => (i : Nat)) w := ⟨L.toArray, by simp, fun i hi => by rw [hpl i hi]; simp [hi], fun i hi => ⟨Int.natCast_nonneg _, Int.ofNat_lt.2 hi⟩, SWK.start hH⟩
  refine (sortp_any w w g 0 L.length 8 hR pl _ (cfp_ranks L pl hpl) (fun i => (i : Nat)) hST cap hn (fun i _ => rfl)).mono ?_
  rintro ed w' ⟨rfl, d, ⟨dk, hs, hdk, hr, n, os, rfl⟩, hsrt, hsame⟩
  have hL := sort_gives hd pl hpl _ d (fun i _ => rfl) hsrt hsame
  have hdk2 : dk = (sortPl L).toArray := by
    rw [← hL]
    refine Array.ext (by simp [hs]) fun i i1 i2 => ?_
    have := hdk i (by omega)
    rw [getElem!_pos dk i i1] at this
    rw [this]; simp
  rw [hdk2]
  refine ⟨rfl, ?_, grownBy_sortedP _⟩
  have hF : flatK Plc.cells 8 (sortPl L).toArray = ((sortPl L).flatMap Plc.cells).toArray := flatK_flat _
  have hFl : ((sortPl L).flatMap Plc.cells).length = L.length * 8 := by rw [flat_length Plc.len, sortPl_length]
  refine ⟨by rw [hFl], .inr ⟨g, cap, _, rfl, hbase, heap_sortedP _ hb, h1, h2, by simp [putCells, h3], ?_⟩⟩
  rw [hF, ← hFl]
  exact take_putCellsP cur _ (by rw [hFl, h3]; omega)
end Go.Proofs.Ytfddhmhagijodaa
