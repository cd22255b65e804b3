/- Maps with int keys; their keys in order; The keys of a map from ints to ints, in order. -/
import Derived.Test.YtfddhmhagijodaaMapV
import Derived.Test.YtfddhmhagijodaaSorted
import Derived.Test.YtfddhmhagijodaaApp2
namespace Go.Proofs.Ytfddhmhagijodaa
open Go.RowKit Go.Maps

/-- An int of 64 bits. -/
def I64 (x : Int) : Prop := -9223372036854775808 ≤ x ∧ x ≤ 9223372036854775807
theorem wf64 {x : Int} : (Lit.int .i64 x).wf = true ↔ I64 x := by
  unfold I64
  simp [Lit.wf, IntKind.min, IntKind.max, IntKind.signed, IntKind.bits]
def intK : KeyEnc Try.prog 3 Int where
  enc := .int .i64
  lit := .int .i64
  ok := I64
  keyed := int_keyed Try.underlying3
  key a ha := keyOf_int_mk Try.underlying3 (wf64.2 ha)
  inj a b _ _ h := by simpa using h

/-- In ascending order, none twice. -/
def Asc (l : List Int) : Prop := l.Pairwise (· < ·)
theorem Asc.nodup {l : List Int} (h : Asc l) : l.Nodup := h.imp fun h e => by omega
theorem Asc.eq {l m : List Int} (hl : Asc l) (hm : Asc m) (h : ∀ x, x ∈ l ↔ x ∈ m) : l = m := by
  refine List.Perm.eq_of_pairwise (le := fun a b => a < b) (fun a b _ _ h1 h2 => by omega) hl hm ((List.perm_ext_iff_of_nodup hl.nodup hm.nodup).2 h)

theorem VMap.keys {w : World} {b n : Nat} {f : Int → Option Value} (h : VMap intK w b n f) : ∃ D : DataW Value, w.ownsMap Try.prog 3 hold b n D ∧ Maps.size D ≤ n ∧ (intKeys D).Nodup ∧ ∀ x, x ∈ intKeys D ↔ (I64 x ∧ (f x).isSome = true) := by
  obtain ⟨D, ho, h2⟩ := h
  have hw := intKeys_wf ho Try.underlying3
  obtain ⟨es, hD, hpw, hkl⟩ := ho.entries intK.keyed
  obtain ⟨es', hD', hko⟩ := ho.keysOf
  have hsz : Maps.size D ≤ n := by
    obtain ⟨es0, clock, _, _, hs, rfl⟩ := ho
    show ((es0.toList.map _).foldr DataW.insert []).length ≤ n
    rw [length_sorted]
    simpa using hs
  subst hD
  have hki : ∀ p ∈ es, ∃ x, p.1 = .int .i64 x := fun p hp => by
    cases hD'
    obtain ⟨v, hv⟩ := hko p hp
    obtain ⟨x, _, hx, _⟩ := Maps.keyOf_i64 Try.underlying3 hv
    exact ⟨x, hx⟩
  refine ⟨_, ho, hsz, ?_, fun x => ?_⟩
  · show (es.map fun p => Go.intOf p.1).Nodup
    refine List.pairwise_map.2 (hpw.imp_of_mem fun {p q} hp' hq' hne e => hne ?_)
    obtain ⟨a, ha⟩ := hki p hp'
    obtain ⟨c, hc⟩ := hki q hq'
    rw [ha, hc] at e ⊢
    exact congrArg _ e
  · have hmem : x ∈ intKeys (.map es) ↔ has (.map es) (.int .i64 x) = true := by
      rw [has_eq, List.any_eq_true]
      show x ∈ es.map (fun p => Go.intOf p.1) ↔ _
      rw [List.mem_map]
      constructor
      · rintro ⟨p, hp', rfl⟩
        obtain ⟨a, ha⟩ := hki p hp'
        exact ⟨p, hp', by rw [ha]; simp [Lit.sameKey, Go.intOf]⟩
      · rintro ⟨p, hp', hs⟩
        obtain ⟨a, ha⟩ := hki p hp'
        rw [ha] at hs
        exact ⟨p, hp', by rw [ha]; simpa [Lit.sameKey, Go.intOf] using hs⟩
    constructor
    · intro hx
      have hx1 := wf64.1 (hw x hx)
      exact ⟨hx1, by rw [← (h2 x hx1).1]; exact hmem.1 hx⟩
    · rintro ⟨hx1, hx2⟩
      rw [← (h2 x hx1).1] at hx2
      exact hmem.2 hx2

/-- What the sorted keys are. -/
def KeysAre (f : Int → Option Value) (xs : List Int) : Prop := Asc xs ∧ ∀ x, x ∈ xs ↔ (I64 x ∧ (f x).isSome = true)
theorem sorted_keys {D : DataW Value} {f : Int → Option Value} {ss : List Int} (hn : (intKeys D).Nodup) (hm : ∀ x, x ∈ intKeys D ↔ (I64 x ∧ (f x).isSome = true)) (hp : ss.Perm (intKeys D)) : KeysAre f (ss.mergeSort (fun x y => decide (x ≤ y))) := by
  have tr : ∀ a b c : Int, decide (a ≤ b) = true → decide (b ≤ c) = true → decide (a ≤ c) = true := fun a b c h1 h2 => by simp only [decide_eq_true_eq] at *; omega
  have to : ∀ a b : Int, (decide (a ≤ b) || decide (b ≤ a)) = true := fun a b => by simp only [Bool.or_eq_true, decide_eq_true_eq]; omega
  have hs := List.pairwise_mergeSort tr to ss
  have hpp : (ss.mergeSort (fun x y => decide (x ≤ y))).Perm (intKeys D) := (List.mergeSort_perm ss _).trans hp
  have hnd : (ss.mergeSort (fun x y => decide (x ≤ y))).Nodup := hpp.nodup_iff.2 hn
  refine ⟨?_, fun x => by rw [hpp.mem_iff]; exact hm x⟩
  refine (List.pairwise_and_iff.2 ⟨hs, hnd⟩).imp fun {a b} h => ?_
  have := h.1
  simp only [decide_eq_true_eq] at this
  have := h.2
  omega
/-- A slice of ints that is nil just where it is empty. -/
def OutK (w : World) (f : Int → Option Value) (e : Ending) (w' : World) : Prop := ∃ v xs, e = .returned v ∧ IntL w' v xs ∧ KeysAre f xs ∧ Keeps w w'
end Go.Proofs.Ytfddhmhagijodaa

namespace Go.Proofs.Ytfddhmhagijodaa
open Go.RowKit Go.Maps
theorem sortedI_any (b n Bm : Nat) (f : Int → Option Value) (w : World) (hm : w.cell? ⟨Bm, 0, none⟩ = some (.map (some b))) (h : VMap intK w b n f) (hn : n ≤ 1000000) :
    Calls Try.prog 29 #[.func (.func 49) #[] #[.pointer (some ⟨Bm, 0, none⟩)]] w (OutK w f) := by
  obtain ⟨D, ho, hsz, hnd, hmem⟩ := h.keys
  refine (Try.sortedKeys30 b n Bm D hold w hm ho (by unfold maxLen; omega) (by omega)).mono fun e w' h => ?_
  obtain ⟨v, ss, rfl, hp, hrow, _, hb⟩ := h
  refine ⟨v, _, rfl, ?_, sorted_keys hnd hmem hp, hb⟩
  have hl : (ss.mergeSort (fun x y => decide (x ≤ y))).length = ss.length := List.length_mergeSort _
  exact IntL.own (by rw [hl]; exact hrow)
/-- The same, with how many there are. -/
def OutKn (w : World) (n : Nat) (f : Int → Option Value) (e : Ending) (w' : World) : Prop := ∃ v xs, e = .returned v ∧ IntL w' v xs ∧ KeysAre f xs ∧ Keeps w w' ∧ xs.length ≤ n
theorem sortedIn_any (b n Bm : Nat) (f : Int → Option Value) (w : World) (hm : w.cell? ⟨Bm, 0, none⟩ = some (.map (some b))) (h : VMap intK w b n f) (hn : n ≤ 1000000) :
    Calls Try.prog 29 #[.func (.func 49) #[] #[.pointer (some ⟨Bm, 0, none⟩)]] w (OutKn w n f) := by
  obtain ⟨D, ho, hsz, hnd, hmem⟩ := h.keys
  refine (Try.sortedKeys30 b n Bm D hold w hm ho (by unfold maxLen; omega) (by omega)).mono fun e w' h => ?_
  obtain ⟨v, ss, rfl, hp, hrow, _, hb⟩ := h
  have hl : (ss.mergeSort (fun x y => decide (x ≤ y))).length = ss.length := List.length_mergeSort _
  refine ⟨v, _, rfl, ?_, sorted_keys hnd hmem hp, hb, ?_⟩
  · exact IntL.own (by rw [hl]; exact hrow)
  · rw [hl, hp.length_eq]
    obtain ⟨es, clock, _, _, hs, rfl⟩ := ho
    show ((((es.toList.map _).foldr DataW.insert [])).map _).length ≤ n
    rw [List.length_map, length_sorted]
    simpa using hs
theorem keysI_any (mb : Option Nat) (w : World) : Calls Try.prog 30 #[.map mb] w fun e w' => e = .returned (.func (.func 49) #[] #[.pointer (some ⟨w.heap.size, 0, none⟩)]) ∧ w.alloc (.cells #[.map mb] 71) = w' :=
  (Try.mapKeys30 mb w).mono fun _ _ h => ⟨h.1, h.2.symm⟩
end Go.Proofs.Ytfddhmhagijodaa
