/- slices.SortFunc and slices.SortedFunc at pairs: the contracts. -/
import Derived.Test.YtfddhmhagijodaaPrCmp
import Derived.Test.YtfddhmhagijodaaPrCol
import Derived.Test.YtfddhmhagijodaaSortPr
import Derived.Shelf.SlSortCmp.NoneTotal
namespace Go.Proofs.Ytfddhmhagijodaa
open Go.RowKit Go.Shelf Go.Lib Go.Sort Go.Maps
set_option linter.unusedSimpArgs false
set_option linter.unusedVariables false

theorem ltOf_pr (x y : Pr) : ltOf cfP x y = decide (PrLt x y) := by unfold ltOf; exact decide_eq_decide.2 (cfP_neg x y)
theorem swo_pr : SWO (ltOf cfP) where
  irrefl x := by rw [ltOf_pr]; exact decide_eq_false fun h => h.irrefl
  trans x y z h1 h2 := by rw [ltOf_pr] at *; exact decide_eq_true ((of_decide_eq_true h1).trans (of_decide_eq_true h2))
  ntrans x y z h1 h2 := by
    rw [ltOf_pr] at *
    have h1 := of_decide_eq_false h1
    have h2 := of_decide_eq_false h2
    refine decide_eq_false fun h => ?_
    unfold PrLt at *
    omega
theorem cmpLays_pr (blk off size : Nat) (w : World) : CmpLays Try.prog 41 #[] Pr.cells 2 cfP blk off size w := fun _ _ _ _ x y => pr1_any x y _
theorem flatK_get (d : Array Pr) (t : Nat) : (flatK Pr.cells 2 d).toList[t]? = (d.toList.flatMap Pr.cells)[t]? := by
  by_cases ht : t < d.size * 2
  · have h2 := flat_get Pr.len d.toList (t / 2) (t % 2) (by rw [Array.length_toList]; omega) (by omega)
    rw [show t / 2 * 2 + t % 2 = t from by omega] at h2
    rw [h2]
    have h3 : (flatK Pr.cells 2 d)[t]! = (Pr.cells d[t / 2]!)[t % 2]! := get_flatK _ _ _ _ ht
    rw [Array.getElem?_toList, Array.getElem?_eq_getElem (by rw [size_flatK]; exact ht)]
    rw [getElem!_pos _ t (by rw [size_flatK]; exact ht)] at h3
    rw [h3, getElem!_pos d (t / 2) (by omega), Array.getElem_toList]
    rcases (show t % 2 = 0 ∨ t % 2 = 1 by omega) with h | h <;> rw [h] <;> rfl
  · rw [List.getElem?_eq_none (by rw [Array.length_toList, size_flatK]; omega), List.getElem?_eq_none (by rw [flat_length Pr.len, Array.length_toList]; omega)]
theorem flatK_list (d : Array Pr) : (flatK Pr.cells 2 d).toList = d.toList.flatMap Pr.cells := List.ext_getElem? (flatK_get d)
theorem holdsK_own {w : World} {base e n g cap : Nat} {ss : List Pr} (H : w.ownsRow base e 2 (.slice (some ⟨g, 0, none⟩) n cap) n (ss.flatMap Pr.cells)) (hn : ss.length = n) : HoldsK Pr.cells 2 w g 0 ss.toArray := by
  intro j hj
  have hj2 : j < n * 2 := by rw [size_flatK, List.size_toArray] at hj; omega
  refine ⟨?_, ?_⟩
  · rw [Nat.zero_add, H.cellAt j hj2]
    have := flatK_get ss.toArray j
    rw [Array.getElem?_toList, Array.getElem?_eq_getElem hj] at this
    rw [← this, getElem!_pos _ j hj]
    rfl
  · rw [Nat.zero_add]; exact H.frozenAt j
theorem own_sortK {w : World} {base e n g cap m : Nat} {os : Array Obj} {xs : List Value} (H : w.ownsRow base e 2 (.slice (some ⟨g, 0, none⟩) n cap) n xs) (F : Array Value) (hF : F.size = n * 2) :
    (grow (putRow id (Sort.ahead w m) g 0 F) os).ownsRow base e 2 (.slice (some ⟨g, 0, none⟩) n cap) n F.toList ∧ w.grownBy (grow (putRow id (Sort.ahead w m) g 0 F) os) (some g) := by
  rcases H.2 with ⟨h', _⟩ | ⟨g', cap', cur, h', hb, hgb, hn, hm, hs, ht⟩
  · simp at h'
  · simp only [Value.slice.injEq, Option.some.injEq, Addr.mk.injEq, and_true, true_and] at h'
    obtain ⟨rfl, rfl⟩ := h'
    have hg : g < w.heap.size := (Array.getElem?_eq_some_iff.1 hgb).1
    have hheap : (grow (putRow id (Sort.ahead w m) g 0 F) os).heap[g]? = some (.cells (putCells id 0 F cur) e (0, 0)) := by
      rw [heap_grow_old _ _ (by simpa using hg)]
      simp [putRow, mapBlock, Sort.ahead, Array.getElem?_modify, hgb, onCells]
    refine ⟨⟨by rw [Array.length_toList, hF], .inr ⟨g, cap, _, rfl, hb, hheap, hn, hm, by simp [putCells, hs], ?_⟩⟩, rfl, rfl, rfl, by simp, fun k hk hne => ?_⟩
    · apply List.ext_getElem?
      intro j
      have hcs : n * 2 ≤ cur.size := by rw [hs]; exact Nat.mul_le_mul_right _ hn
      by_cases hj : j < n * 2
      · rw [List.getElem?_take_of_lt hj, Array.getElem?_toList, Array.getElem?_toList]
        simp [putCells, hj, show j < cur.size by omega, hF]
      · rw [List.getElem?_take_eq_none (by omega), List.getElem?_eq_none (by rw [Array.length_toList]; omega)]
    · rw [heap_grow_old _ _ (by simpa using hk)]
      have : g ≠ k := fun e => hne (by rw [e])
      simp [putRow, mapBlock, Sort.ahead, Array.getElem?_modify, this]
theorem sortPr_any (base g cap : Nat) (ss : List Pr) (w : World) (H : w.ownsRow base 66 2 (.slice (some ⟨g, 0, none⟩) ss.length cap) ss.length (ss.flatMap Pr.cells)) (hb : base ≤ w.heap.size) (hbig : ss.length ≤ 1000000) :
    Calls Try.prog 54 #[.slice (some ⟨g, 0, none⟩) ss.length cap, .func (.func 41) #[] #[]] w fun e w' =>
      e = .returned (.tuple #[]) ∧ ∃ ts : List Pr, ts.Perm ss ∧ ts.Pairwise (fun x y => ¬ PrLt y x) ∧ w'.ownsRow base 66 2 (.slice (some ⟨g, 0, none⟩) ss.length cap) ss.length (ts.flatMap Pr.cells) ∧ Below base w w' := by
  have eg : ∀ args w, (callFunc 41 args).run Try.prog w = .ok (.enter 41 args) w := enters_of Try.func41 (by kernel_rfl) rfl
  have hg := (H.lt g rfl)
  have hcon := AnyQ.slices_SortFunc Try.sortPr 2 Try.isAgg66 Try.sizeOf66 Pr.cells (fun _ => rfl) Pr.one cfP swo_pr 41 #[] g 0 cap ss.toArray w eg (cmpLays_pr g 0 _ w) (holdsK_own H rfl) hg.2 (by rw [List.size_toArray]; omega)
  change Calls Try.prog 54 #[.slice (some ⟨g, 0, none⟩) ss.length cap, .func (.func 41) #[] #[]] w _ at hcon
  refine hcon.mono ?_
  rintro e w' ⟨rfl, d', n, os, hp, hs, rfl⟩
  have hsz : d'.size = ss.length := by have := hp.1; rwa [List.size_toArray] at this
  have hperm : d'.toList.Perm ss := by
    have h := hp.2.2
    rw [show ss.toArray.size = d'.size from by rw [hsz, List.size_toArray]] at h
    rw [Array.extract_size] at h
    rw [show d'.size = ss.toArray.size from by rw [hsz, List.size_toArray], Array.extract_size] at h
    simpa using h
  obtain ⟨h1, h2⟩ := own_sortK (m := n) (os := os) H (flatK Pr.cells 2 d') (by rw [size_flatK, hsz])
  refine ⟨rfl, d'.toList, hperm, ?_, ?_, ?_⟩
  · rw [List.pairwise_iff_getElem]
    intro i j hi hj hij
    rw [Array.length_toList] at hi hj
    have h := hs i j (Nat.zero_le _) hij (by rw [List.size_toArray]; omega)
    rw [ltOf_pr, getElem!_pos d' i hi, getElem!_pos d' j hj] at h
    rw [Array.getElem_toList, Array.getElem_toList]
    exact of_decide_eq_false h
  · rw [← flatK_list]; exact h1
  · exact (Below.refl base w).grown h2 hb (fun k e => by cases e; exact hg.1)
set_option maxHeartbeats 2000000 in
theorem sortedFuncP_any (Bm b nn : Nat) (D : DataW Value) (w : World) (hm : w.cell? ⟨Bm, 0, none⟩ = some (.map (some b))) (hown : w.ownsMap Try.prog 66 hold b nn D) (hmax : Maps.size D ≤ 1000000) (hlen : ∀ ss, KeysP D ss → ss.length ≤ 1000000) :
    Calls Try.prog 39 #[.func (.func 55) #[] #[.pointer (some ⟨Bm, 0, none⟩)], .func (.func 41) #[] #[]] w fun e w' =>
      ∃ v ts, e = .returned v ∧ PAsc ts ∧ (∀ x, x ∈ ts ↔ (x.Ok ∧ Maps.has D (prLit x) = true)) ∧ w'.ownsRow w.heap.size 66 2 v ts.length (ts.flatMap Pr.cells) ∧ Keeps w w' := by
  have HC := Lib.hid (collectP_in Bm b nn D w hm hown hmax)
  have HL := Lib.hid hlen
  clear hown hlen
  go_enter Try.func39, Try.ntmps39
  go_wp2_with (go_at_call 53; refine HC.out.mono ?_; rintro e w1 ⟨v, ss, rfl, hS, ho, hk⟩; have HS := Lib.hid hS; have HO := Lib.hid ho; have HK := Lib.hid hk; clear hS hk; rcases ho.2 with ⟨rfl, h0⟩ | ⟨g, cap, cur, rfl, _⟩)
  · have hz := List.eq_nil_of_length_eq_zero h0
    subst hz
    go_wp2_with (go_at_call 54; refine (AnyF.slices_SortFunc_none (P := Try.prog) (ρ := Try.sortPr_ren) { Try.sortPr with } none 0 (.func (.func 41) #[] #[]) w1).mono ?_; rintro e w2 ⟨rfl, rfl⟩)
    go_ret
    exact ⟨_, [], rfl, List.Pairwise.nil, fun x => ⟨fun h => absurd h List.not_mem_nil, fun h => (HS.out.2.2 x h.1).2 h.2⟩, World.ownsRow_nil _ _ _ _, HK.out⟩
  · have hkk := HK.out.size
    have HSP := Lib.hid (sortPr_any w.heap.size g cap ss w1 HO.out hkk (HL.out ss HS.out))
    clear ho
    go_wp2_with (go_at_call 54; refine HSP.out.mono ?_; rintro e w2 ⟨rfl, ts, hp, hpw, hr, hb⟩)
    go_ret
    refine ⟨_, ts, rfl, ?_, fun x => ?_, by rw [hp.length_eq]; exact hr, Below.trans HK.out hb⟩
    · have hnd : ts.Nodup := hp.nodup_iff.2 HS.out.1
      refine (List.pairwise_and_iff.2 ⟨hpw, hnd⟩).imp fun {a b} h => ?_
      rcases PrLt.total a b with h2 | h2 | h2
      · exact h2
      · exact absurd h2 h.2
      · exact absurd h2 h.1
    · rw [hp.mem_iff]
      exact ⟨fun h => ⟨HS.out.2.1 x h, (HS.out.2.2 x (HS.out.2.1 x h)).1 h⟩, fun h => (HS.out.2.2 x h.1).2 h.2⟩
end Go.Proofs.Ytfddhmhagijodaa
