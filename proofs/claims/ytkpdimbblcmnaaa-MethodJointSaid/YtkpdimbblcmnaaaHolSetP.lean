/- Holdings with a further one: the plain part. -/
import Derived.Test.YtkpdimbblcmnaaaHolCloneP
namespace Go.Proofs.Ytkpdimbblcmnaaa
open Go.RowKit
set_option linter.unusedSimpArgs false
set_option linter.unusedVariables false

def putH (l : List Hol) (h : Hol) : List Hol := match idxH l h with
  | none => l ++ [h]
  | some i => l.set i h
def setH (n : Int) (l : List Hol) (h : Hol) : List Hol × Int :=
  if hvalidB n l = false then ([], 1) else if properB n h = false then ([], 1) else if 200 < (putH l h).length then ([], 6) else if hvalidB n (putH l h) = false then ([], 18) else (putH l h, 0)
theorem setH_1 {n : Int} {l : List Hol} {h : Hol} (h1 : hvalidB n l = false) : setH n l h = ([], 1) := by unfold setH; rw [if_pos h1]
theorem setH_2 {n : Int} {l : List Hol} {h : Hol} (h1 : hvalidB n l = true) (h2 : properB n h = false) : setH n l h = ([], 1) := by unfold setH; rw [if_neg (by simp [h1]), if_pos h2]
theorem setH_3 {n : Int} {l : List Hol} {h : Hol} (h1 : hvalidB n l = true) (h2 : properB n h = true) (h3 : 200 < (putH l h).length) : setH n l h = ([], 6) := by unfold setH; rw [if_neg (by simp [h1]), if_neg (by simp [h2]), if_pos h3]
theorem setH_4 {n : Int} {l : List Hol} {h : Hol} (h1 : hvalidB n l = true) (h2 : properB n h = true) (h3 : ¬ 200 < (putH l h).length) (h4 : hvalidB n (putH l h) = false) : setH n l h = ([], 18) := by unfold setH; rw [if_neg (by simp [h1]), if_neg (by simp [h2]), if_neg h3, if_pos h4]
theorem setH_5 {n : Int} {l : List Hol} {h : Hol} (h1 : hvalidB n l = true) (h2 : properB n h = true) (h3 : ¬ 200 < (putH l h).length) (h4 : hvalidB n (putH l h) = true) : setH n l h = (putH l h, 0) := by unfold setH; rw [if_neg (by simp [h1]), if_neg (by simp [h2]), if_neg h3, if_neg (by simp [h4])]
theorem hvalidB_len {n : Int} {l : List Hol} (h : hvalidB n l = true) : l.length ≤ 200 := by
  simp only [hvalidB, Bool.and_eq_true, decide_eq_true_eq] at h
  exact h.1.1.2
theorem putH_ok {l : List Hol} {h : Hol} (hl : ∀ x ∈ l, x.Ok) (hh : h.Ok) : ∀ x ∈ putH l h, x.Ok := by
  intro x hx
  unfold putH at hx
  split at hx
  · rcases List.mem_append.1 hx with hx | hx
    · exact hl x hx
    · simp only [List.mem_singleton] at hx; subst hx; exact hh
  · rcases List.mem_or_eq_of_mem_set hx with hx | rfl
    · exact hl x hx
    · exact hh
theorem putH_len (l : List Hol) (h : Hol) : (putH l h).length ≤ l.length + 1 := by
  unfold putH
  split
  · simp
  · simp
theorem flat_setH (l : List Hol) (k : Nat) (hk : k < l.length) (h : Hol) : (l.set k h).flatMap Hol.cells = (((((l.flatMap Hol.cells).set (k * 4) (.int .i64 h.holder)).set (k * 4 + 1) (.int .i64 h.entity)).set (k * 4 + 2) (.int .i64 h.date)).set (k * 4 + 3) (.int .i64 h.share)) := by
  induction l generalizing k with
  | nil => simp at hk
  | cons x l ih =>
    cases k with
    | zero => rfl
    | succ k =>
      rw [List.set_cons_succ, List.flatMap_cons, ih k (by simpa using hk), List.flatMap_cons]
      have e : ∀ (j : Nat) (u : Value) (xs : List Value), (x.cells ++ xs).set ((k + 1) * 4 + j) u = x.cells ++ xs.set (k * 4 + j) u := by
        intro j u xs
        rw [List.set_append_right _ _ (by rw [Hol.len]; omega), Hol.len]
        congr 2
        omega
      have e0 := e 0
      simp only [Nat.add_zero] at e0
      rw [e0, e, e, e]
theorem own_keepsH {w w' : World} {base e size n : Nat} {v : Value} {xs : List Value} (h : w.ownsRow base e size v n xs) (hk : Keeps w w') : w'.ownsRow base e size v n xs := by
  refine ⟨h.1, ?_⟩
  rcases h.2 with hn | ⟨g, cap, cur, hv, hbg, hg, rest⟩
  · exact .inl hn
  · exact .inr ⟨g, cap, cur, hv, hbg, (hk.block g (Array.getElem?_eq_some_iff.1 hg).1).trans hg, rest⟩
theorem own_setH {w : World} {base e size n g cap : Nat} {xs : List Value} (h : w.ownsRow base e size (.slice (some ⟨g, 0, none⟩) n cap) n xs) (j : Nat) (u : Value) :
    (w.setCell ⟨g, j, none⟩ u).ownsRow base e size (.slice (some ⟨g, 0, none⟩) n cap) n (xs.set j u) := by
  obtain ⟨hl, h2⟩ := h
  rcases h2 with ⟨he, _⟩ | ⟨g', cap', cur, he, hb, hg, h1, h3, hs, ht⟩
  · cases he
  · simp only [Value.slice.injEq, Option.some.injEq, Addr.mk.injEq] at he
    obtain ⟨⟨rfl, _⟩, _, rfl⟩ := he
    refine ⟨by simpa using hl, .inr ⟨g, cap, cur.setIfInBounds j u, rfl, hb, ?_, h1, h3, by simpa using hs, ?_⟩⟩
    · show (w.heap.modify g _)[g]? = _
      rw [Array.getElem?_modify, if_pos rfl, hg]
      rfl
    · rw [Array.toList_setIfInBounds, List.take_set, ht]
theorem own_shapeH {w : World} {base e size n : Nat} {v : Value} {xs : List Value} (h : w.ownsRow base e size v n xs) (hn : 0 < n) : ∃ g cap, v = .slice (some ⟨g, 0, none⟩) n cap ∧ base ≤ g ∧ g < w.heap.size ∧ ∀ j, w.frozen? ⟨g, j, none⟩ = false := by
  rcases h.2 with ⟨_, h0⟩ | ⟨g, cap, cur, he, hb, hg, _⟩
  · omega
  · exact ⟨g, cap, he, hb, (Array.getElem?_eq_some_iff.1 hg).1, fun j => by simp [World.frozen?, hg]⟩
/-- A list of holdings and an error. -/
def OutHol (w : World) (r : List Hol × Int) (e : Ending) (w' : World) : Prop := ∃ ao cap b o, e = .returned (.tuple #[.slice ao r.1.length cap, .int .i64 r.2]) ∧ Hols w' ao r.1 cap b o ∧ Keeps w w'
theorem OutHol.nil {w w' : World} {r : List Hol × Int} {er : Int} (h : r = ([], er)) (hk : Keeps w w') : OutHol w r (.returned (.tuple #[.slice none 0 0, .int .i64 er])) w' := by
  subst h; exact ⟨none, 0, 0, 0, rfl, Sl.nil _ _, hk⟩
end Go.Proofs.Ytkpdimbblcmnaaa
