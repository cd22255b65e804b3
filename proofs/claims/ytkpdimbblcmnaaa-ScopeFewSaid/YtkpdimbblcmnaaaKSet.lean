/- Several texts of the seat in one: HolCloneP, HolSetP, HolRSetP, HolKeepP. -/
import Derived.Test.YtkpdimbblcmnaaaHolRVal
import Derived.Test.YtkpdimbblcmnaaaKBase
/- Holdings: their element, the index of a key: the plain part. -/
namespace Go.Proofs.Ytkpdimbblcmnaaa
open Go.RowKit
set_option linter.unusedSimpArgs false
set_option linter.unusedVariables false

theorem elemHol : ElemOf Try.prog 23 46 (.agg #[.int .i64 0, .int .i64 0, .int .i64 0, .int .i64 0]) 4 32 := ⟨Try.underlying23, by kernel_rfl, rfl, by omega⟩
theorem ones_hol (l : List Hol) : ∀ u ∈ l.flatMap Hol.cells, u.oneCell' = true := fun u hu => by
  obtain ⟨a, _, hu⟩ := List.mem_flatMap.1 hu
  simp [Hol.cells] at hu
  rcases hu with rfl | rfl | rfl | rfl <;> rfl
/-- The result owns a copy. -/
def OwnH (w : World) (l : List Hol) (v : Value) (w' : World) : Prop := w'.ownsRow w.heap.size 46 4 v l.length (l.flatMap Hol.cells) ∧ Keeps w w'
/-- The index of the first one with the key of h, or -1. -/
def idxH (l : List Hol) (h : Hol) : Option Nat := l.findIdx? (fun x => sameH x h)
def idxV (o : Option Nat) : Int := match o with | none => -1 | some i => (i : Int)
theorem idxH_none {l : List Hol} {h : Hol} (hn : ∀ i (hi : i < l.length), sameH l[i] h = false) : idxH l h = none := by
  unfold idxH
  rw [List.findIdx?_eq_none_iff]
  intro x hx
  obtain ⟨i, hi, rfl⟩ := List.getElem_of_mem hx
  exact hn i hi
theorem idxH_some {l : List Hol} {h : Hol} {k : Nat} (hk : k < l.length) (hn : ∀ i (hi : i < l.length), i < k → sameH l[i] h = false) (hs : sameH l[k] h = true) : idxH l h = some k := by
  unfold idxH
  rw [List.findIdx?_eq_some_iff_getElem]
  exact ⟨hk, hs, fun j hj => by rw [hn j (by omega) hj]; simp⟩
end Go.Proofs.Ytkpdimbblcmnaaa

/- Holdings with a further one: the plain part. -/
namespace Go.Proofs.Ytkpdimbblcmnaaa
open Go.RowKit
set_option linter.unusedSimpArgs false
set_option linter.unusedVariables false

def putH (l : List Hol) (h : Hol) : List Hol := match idxH l h with
  | none => l ++ [h]
  | some i => l.set i h
def setH (n : Int) (l : List Hol) (h : Hol) : List Hol × Int :=
  if hvalidB n l = false then ([], 1) else if properB n h = false then ([], 1) else if 200 < (putH l h).length then ([], 6) else if hvalidB n (putH l h) = false then ([], 18) else (putH l h, 0)
theorem setH_1 {n : Int} {l : List Hol} {h : Hol} (h1 : hvalidB n l = false) : setH n l h = ([], 1) := by unfold setH; rw [if_pos h1]
theorem setH_2 {n : Int} {l : List Hol} {h : Hol} (h1 : hvalidB n l = true) (h2 : properB n h = false) : setH n l h = ([], 1) := by unfold setH; rw [if_neg (by simp [h1]), if_pos h2]
theorem setH_3 {n : Int} {l : List Hol} {h : Hol} (h1 : hvalidB n l = true) (h2 : properB n h = true) (h3 : 200 < (putH l h).length) : setH n l h = ([], 6) := by unfold setH; rw [if_neg (by simp [h1]), if_neg (by simp [h2]), if_pos h3]
theorem setH_4 {n : Int} {l : List Hol} {h : Hol} (h1 : hvalidB n l = true) (h2 : properB n h = true) (h3 : ¬ 200 < (putH l h).length) (h4 : hvalidB n (putH l h) = false) : setH n l h = ([], 18) := by unfold setH; rw [if_neg (by simp [h1]), if_neg (by simp [h2]), if_neg h3, if_pos h4]
theorem setH_5 {n : Int} {l : List Hol} {h : Hol} (h1 : hvalidB n l = true) (h2 : properB n h = true) (h3 : ¬ 200 < (putH l h).length) (h4 : hvalidB n (putH l h) = true) : setH n l h = (putH l h, 0) := by unfold setH; rw [if_neg (by simp [h1]), if_neg (by simp [h2]), if_neg h3, if_neg (by simp [h4])]
theorem hvalidB_len {n : Int} {l : List Hol} (h : hvalidB n l = true) : l.length ≤ 200 := by
  simp only [hvalidB, Bool.and_eq_true, decide_eq_true_eq] at h
  exact h.1.1.2
theorem putH_ok {l : List Hol} {h : Hol} (hl : ∀ x ∈ l, x.Ok) (hh : h.Ok) : ∀ x ∈ putH l h, x.Ok := by
  intro x hx
  unfold putH at hx
  split at hx
  · rcases List.mem_append.1 hx with hx | hx
    · exact hl x hx
    · simp only [List.mem_singleton] at hx; subst hx; exact hh
  · rcases List.mem_or_eq_of_mem_set hx with hx | rfl
    · exact hl x hx
    · exact hh
theorem putH_len (l : List Hol) (h : Hol) : (putH l h).length ≤ l.length + 1 := by
  unfold putH
  split
  · simp
  · simp
theorem flat_setH (l : List Hol) (k : Nat) (hk : k < l.length) (h : Hol) : (l.set k h).flatMap Hol.cells = (((((l.flatMap Hol.cells).set (k * 4) (.int .i64 h.holder)).set (k * 4 + 1) (.int .i64 h.entity)).set (k * 4 + 2) (.int .i64 h.date)).set (k * 4 + 3) (.int .i64 h.share)) := by
  induction l generalizing k with
  | nil => simp at hk
  | cons x l ih =>
    cases k with
    | zero => rfl
    | succ k =>
      rw [List.set_cons_succ, List.flatMap_cons, ih k (by simpa using hk), List.flatMap_cons]
      have e : ∀ (j : Nat) (u : Value) (xs : List Value), (x.cells ++ xs).set ((k + 1) * 4 + j) u = x.cells ++ xs.set (k * 4 + j) u := by
        intro j u xs
        rw [List.set_append_right _ _ (by rw [Hol.len]; omega), Hol.len]
        congr 2
        omega
      have e0 := e 0
      simp only [Nat.add_zero] at e0
      rw [e0, e, e, e]
theorem own_keepsH {w w' : World} {base e size n : Nat} {v : Value} {xs : List Value} (h : w.ownsRow base e size v n xs) (hk : Keeps w w') : w'.ownsRow base e size v n xs := by
  refine ⟨h.1, ?_⟩
  rcases h.2 with hn | ⟨g, cap, cur, hv, hbg, hg, rest⟩
  · exact .inl hn
  · exact .inr ⟨g, cap, cur, hv, hbg, (hk.block g (Array.getElem?_eq_some_iff.1 hg).1).trans hg, rest⟩
theorem own_setH {w : World} {base e size n g cap : Nat} {xs : List Value} (h : w.ownsRow base e size (.slice (some ⟨g, 0, none⟩) n cap) n xs) (j : Nat) (u : Value) :
    (w.setCell ⟨g, j, none⟩ u).ownsRow base e size (.slice (some ⟨g, 0, none⟩) n cap) n (xs.set j u) := by
  obtain ⟨hl, h2⟩ := h
  rcases h2 with ⟨he, _⟩ | ⟨g', cap', cur, he, hb, hg, h1, h3, hs, ht⟩
  · cases he
  · simp only [Value.slice.injEq, Option.some.injEq, Addr.mk.injEq] at he
    obtain ⟨⟨rfl, _⟩, _, rfl⟩ := he
    refine ⟨by simpa using hl, .inr ⟨g, cap, cur.setIfInBounds j u, rfl, hb, ?_, h1, h3, by simpa using hs, ?_⟩⟩
    · show (w.heap.modify g _)[g]? = _
      rw [Array.getElem?_modify, if_pos rfl, hg]
      rfl
    · rw [Array.toList_setIfInBounds, List.take_set, ht]
theorem own_shapeH {w : World} {base e size n : Nat} {v : Value} {xs : List Value} (h : w.ownsRow base e size v n xs) (hn : 0 < n) : ∃ g cap, v = .slice (some ⟨g, 0, none⟩) n cap ∧ base ≤ g ∧ g < w.heap.size ∧ ∀ j, w.frozen? ⟨g, j, none⟩ = false := by
  rcases h.2 with ⟨_, h0⟩ | ⟨g, cap, cur, he, hb, hg, _⟩
  · omega
  · exact ⟨g, cap, he, hb, (Array.getElem?_eq_some_iff.1 hg).1, fun j => by simp [World.frozen?, hg]⟩
/-- A list of holdings and an error. -/
def OutHol (w : World) (r : List Hol × Int) (e : Ending) (w' : World) : Prop := ∃ ao cap b o, e = .returned (.tuple #[.slice ao r.1.length cap, .int .i64 r.2]) ∧ Hols w' ao r.1 cap b o ∧ Keeps w w'
theorem OutHol.nil {w w' : World} {r : List Hol × Int} {er : Int} (h : r = ([], er)) (hk : Keeps w w') : OutHol w r (.returned (.tuple #[.slice none 0 0, .int .i64 er])) w' := by
  subst h; exact ⟨none, 0, 0, 0, rfl, Sl.nil _ _, hk⟩
end Go.Proofs.Ytkpdimbblcmnaaa

/- The reference's Set of holdings: the plain part of its loop. -/
namespace Go.Proofs.Ytkpdimbblcmnaaa
set_option linter.unusedSimpArgs false
set_option linter.unusedVariables false
/-- The list behind k rounds, and whether one has been found. -/
def curL (l : List Hol) (h : Hol) (k : Nat) : List Hol := match idxH l h with
  | none => l
  | some i => if i < k then l.set i h else l
def fnd (l : List Hol) (h : Hol) (k : Nat) : Bool := match idxH l h with
  | none => false
  | some i => decide (i < k)
theorem curL_len (l : List Hol) (h : Hol) (k : Nat) : (curL l h k).length = l.length := by
  unfold curL
  split
  · rfl
  · split <;> simp
theorem curL_zero (l : List Hol) (h : Hol) : curL l h 0 = l := by
  unfold curL
  split
  · rfl
  · rw [if_neg (Nat.not_lt_zero _)]
theorem fnd_zero (l : List Hol) (h : Hol) : fnd l h 0 = false := by
  unfold fnd
  split
  · rfl
  · simp
theorem curL_get {l : List Hol} {h : Hol} {k : Nat} (hk : k < l.length) : (curL l h k)[k]'(by rw [curL_len]; exact hk) = l[k] := by
  have : (curL l h k)[k]? = l[k]? := by
    unfold curL
    split
    · rfl
    · split
      · rw [List.getElem?_set_ne (by omega)]
      · rfl
  rw [List.getElem?_eq_getElem (by rw [curL_len]; exact hk), List.getElem?_eq_getElem hk] at this
  exact Option.some.inj this
theorem idxH_spec {l : List Hol} {h : Hol} {i : Nat} (hi : idxH l h = some i) : ∃ hl : i < l.length, sameH l[i] h = true := by
  unfold idxH at hi
  rw [List.findIdx?_eq_some_iff_getElem] at hi
  exact ⟨hi.1, hi.2.1⟩
theorem curL_no {l : List Hol} {h : Hol} {k : Nat} (hk : k < l.length) (hs : sameH l[k] h = false) : curL l h (k + 1) = curL l h k ∧ fnd l h (k + 1) = fnd l h k := by
  have hne : idxH l h ≠ some k := fun e => by
    obtain ⟨_, h2⟩ := idxH_spec e
    rw [hs] at h2; cases h2
  unfold curL fnd
  cases hi : idxH l h with
  | none => exact ⟨rfl, rfl⟩
  | some i =>
    have : i ≠ k := fun e => hne (e ▸ hi)
    have e1 : (i < k + 1) = (i < k) := by apply propext; omega
    simp only [e1, and_self]
theorem sameH_both {a b c : Hol} (h1 : sameH a c = true) (h2 : sameH b c = true) : sameH a b = true := by
  simp only [sameH, Bool.and_eq_true, beq_iff_eq] at *
  omega
theorem hvalidB_ok {n : Int} {l : List Hol} (h : hvalidB n l = true) {k : Nat} (hk : k < l.length) : okH n l k = true := by
  simp only [hvalidB, Bool.and_eq_true] at h
  exact List.all_eq_true.1 h.1.2 k (List.mem_range.2 hk)
theorem hvalidB_ne {n : Int} {l : List Hol} (h : hvalidB n l = true) {i k : Nat} (hk : k < l.length) (hi : i < k) : sameH (l[i]'(by omega)) l[k] = false := by
  have h1 := hvalidB_ok h hk
  rw [okH_at hk] at h1
  simp only [Bool.and_eq_true, Bool.not_eq_true', List.any_eq_false] at h1
  have := h1.2 (l[i]'(by omega)) (by
    rw [List.mem_iff_getElem]
    exact ⟨i, by rw [List.length_take]; omega, by rw [List.getElem_take]⟩)
  simpa using this
theorem curL_yes {n : Int} {l : List Hol} {h : Hol} {k : Nat} (hv : hvalidB n l = true) (hk : k < l.length) (hs : sameH l[k] h = true) : curL l h (k + 1) = (curL l h k).set k h ∧ fnd l h (k + 1) = true := by
  have hi : idxH l h = some k := idxH_some hk (fun i hi hik => by
    cases hb : sameH l[i] h with
    | false => rfl
    | true => have := hvalidB_ne hv hk hik; rw [sameH_both hb hs] at this; cases this) hs
  unfold curL fnd
  rw [hi]
  simp
theorem curL_none {l : List Hol} {h : Hol} (hi : idxH l h = none) (k : Nat) : curL l h k = l ∧ fnd l h k = false := by
  unfold curL fnd
  rw [hi]
  exact ⟨rfl, rfl⟩
theorem curL_some {l : List Hol} {h : Hol} {i : Nat} (hi : idxH l h = some i) : curL l h l.length = putH l h ∧ fnd l h l.length = true := by
  obtain ⟨hl, _⟩ := idxH_spec hi
  unfold curL fnd putH
  rw [hi]
  simp [hl]
end Go.Proofs.Ytkpdimbblcmnaaa

/- What Set keeps: the plain part. -/
namespace Go.Proofs.Ytkpdimbblcmnaaa
set_option linter.unusedSimpArgs false
set_option linter.unusedVariables false
theorem curH_none {d : Int} {l : List Hol} (h : curH d l = none) : ∀ y ∈ l, ¬ y.date ≤ d := by
  induction l using snoc_ind with
  | h0 => simp
  | h1 l x ih =>
    by_cases hx : x.date ≤ d
    · rw [curH_snoc, if_pos hx] at h
      split at h <;> cases h
    · rw [curH_late hx] at h
      intro y hy
      rcases List.mem_append.1 hy with hy | hy
      · exact ih h y hy
      · simp only [List.mem_singleton] at hy
        subst hy
        exact hx
theorem curH_max {d : Int} {l : List Hol} {m : Hol} (h : curH d l = some m) : m.date ≤ d ∧ ∀ y ∈ l, y.date ≤ d → y.date ≤ m.date := by
  induction l using snoc_ind generalizing m with
  | h0 => cases h
  | h1 l x ih =>
    have key : ∀ (c : Hol), c.date ≤ d → x.date ≤ c.date ∨ ¬ x.date ≤ d → (∀ y ∈ l, y.date ≤ d → y.date ≤ c.date) → c.date ≤ d ∧ ∀ y ∈ l ++ [x], y.date ≤ d → y.date ≤ c.date := fun c hc hx hl => by
      refine ⟨hc, fun y hy hd => ?_⟩
      rcases List.mem_append.1 hy with hy | hy
      · exact hl y hy hd
      · simp only [List.mem_singleton] at hy
        subst hy
        rcases hx with hx | hx
        · exact hx
        · exact absurd hd hx
    by_cases hx : x.date ≤ d
    · cases hc : curH d l with
      | none =>
        rw [curH_first hx hc] at h
        cases h
        exact key x hx (.inl (Int.le_refl _)) fun y hy hd => absurd hd (curH_none hc y hy)
      | some c =>
        obtain ⟨h1, h2⟩ := ih hc
        by_cases hm : c.date < x.date
        · rw [curH_new hx hc hm] at h
          cases h
          exact key x hx (.inl (Int.le_refl _)) fun y hy hd => by have := h2 y hy hd; omega
        · rw [curH_old hx hc hm] at h
          cases h
          exact key _ h1 (.inl (by omega)) h2
    · rw [curH_late hx] at h
      obtain ⟨h1, h2⟩ := ih h
      exact key m h1 (.inr hx) h2
theorem curH_at {l : List Hol} {x : Hol} (hx : x ∈ l) (hu : ∀ y ∈ l, y.date = x.date → y = x) : curH x.date l = some x := by
  cases hc : curH x.date l with
  | none => exact absurd (Int.le_refl _) (curH_none hc x hx)
  | some m =>
    obtain ⟨h1, h2⟩ := curH_max hc
    have h3 := h2 x hx (Int.le_refl _)
    rw [hu m (curH_mem hc) (by omega)]
theorem valid_uniq {n : Int} {l : List Hol} (hv : hvalidB n l = true) {x y : Hol} (hx : x ∈ l) (hy : y ∈ l) (hs : sameH x y = true) : x = y := by
  obtain ⟨i, hi, rfl⟩ := List.getElem_of_mem hx
  obtain ⟨k, hk, rfl⟩ := List.getElem_of_mem hy
  rcases Nat.lt_trichotomy i k with h | rfl | h
  · rw [hvalidB_ne hv hk h] at hs; cases hs
  · rfl
  · have h1 := hvalidB_ne hv hi h
    have h2 : sameH l[k] l[i] = true := by
      simp only [sameH, Bool.and_eq_true, beq_iff_eq] at *
      omega
    rw [h1] at h2; cases h2
theorem sameH_refl (h : Hol) : sameH h h = true := by simp [sameH]
theorem putH_mem (l : List Hol) (h : Hol) : h ∈ putH l h := by
  unfold putH
  cases hi : idxH l h with
  | none => simp
  | some i => exact List.mem_set (idxH_spec hi).1 h
theorem atH_put {n : Int} {l : List Hol} {h : Hol} (hv : hvalidB n (putH l h) = true) : atH (putH l h) h.holder h.entity h.date = h.share := by
  unfold atH
  rw [curH_at (x := h)]
  · rfl
  · exact List.mem_filter.2 ⟨putH_mem l h, by simp [pairB]⟩
  · intro y hy hd
    obtain ⟨h1, h2⟩ := List.mem_filter.1 hy
    simp only [pairB, Bool.and_eq_true, beq_iff_eq] at h2
    exact valid_uniq hv h1 (putH_mem l h) (by simp [sameH, h2.1, h2.2, hd])
theorem putH_again {n : Int} {l : List Hol} {h : Hol} (hv : hvalidB n (putH l h) = true) : putH (putH l h) h = putH l h := by
  obtain ⟨k, hk, e⟩ := List.getElem_of_mem (putH_mem l h)
  cases hi : idxH (putH l h) h with
  | none =>
    unfold idxH at hi
    rw [List.findIdx?_eq_none_iff] at hi
    have := hi h (putH_mem l h)
    rw [sameH_refl] at this; cases this
  | some i =>
    obtain ⟨hl, hs⟩ := idxH_spec hi
    have e2 : (putH l h)[i] = h := valid_uniq hv (List.getElem_mem hl) (putH_mem l h) hs
    show (match idxH (putH l h) h with | none => putH l h ++ [h] | some i => (putH l h).set i h) = putH l h
    rw [hi]
    show (putH l h).set i h = putH l h
    conv => lhs; arg 3; rw [← e2]
    exact List.set_getElem_self hl
theorem filter_set_same {p : Hol → Bool} {x : Hol} : ∀ {l : List Hol} {i : Nat} (hi : i < l.length), p l[i] = false → p x = false → (l.set i x).filter p = l.filter p
  | [], i, hi, _, _ => absurd hi (Nat.not_lt_zero _)
  | y :: l, 0, _, h1, h2 => by
    have h1 : p y = false := h1
    simp [h1, h2]
  | y :: l, i + 1, hi, h1, h2 => by
    have := filter_set_same (l := l) (i := i) (by simpa using hi) h1 h2
    rw [List.set_cons_succ, List.filter_cons, List.filter_cons, this]
theorem atH_filter (l : List Hol) (hh e d : Int) : atH l hh e d = shareOf (curH d (l.filter fun x => decide (x.date ≤ d) && pairB hh e x)) := by
  have hs : ∀ m : List Hol, curH d (m.filter fun x => decide (x.date ≤ d)) = curH d m := fun m => by
    induction m using snoc_ind with
    | h0 => rfl
    | h1 m x ih =>
      by_cases h : x.date ≤ d
      · rw [List.filter_append, show [x].filter (fun x => decide (x.date ≤ d)) = [x] by simp [h], curH_snoc, curH_snoc, ih]
      · rw [List.filter_append, show [x].filter (fun x => decide (x.date ≤ d)) = [] by simp [h], List.append_nil, curH_late h, ih]
  unfold atH ofPair
  rw [← hs, List.filter_filter]
theorem atH_other {l : List Hol} {h : Hol} {hh e d : Int} (hne : ¬ (h.holder = hh ∧ h.entity = e ∧ h.date ≤ d)) : atH (putH l h) hh e d = atH l hh e d := by
  rw [atH_filter, atH_filter]
  have hp : (decide (h.date ≤ d) && pairB hh e h) = false := by
    cases hb : (decide (h.date ≤ d) && pairB hh e h) with
    | false => rfl
    | true =>
      simp only [pairB, Bool.and_eq_true, beq_iff_eq, decide_eq_true_eq] at hb
      exact absurd ⟨hb.2.1, hb.2.2, hb.1⟩ hne
  congr 2
  unfold putH
  cases hi : idxH l h with
  | none =>
    show (l ++ [h]).filter _ = _
    rw [List.filter_append, List.filter_cons_of_neg (by simpa using hp)]
    simp
  | some i =>
    obtain ⟨hl, hs⟩ := idxH_spec hi
    show (l.set i h).filter _ = _
    refine filter_set_same hl ?_ hp
    simp only [sameH, Bool.and_eq_true, beq_iff_eq] at hs
    simp only [pairB, hs.1.1, hs.1.2, hs.2] at hp ⊢
    exact hp
end Go.Proofs.Ytkpdimbblcmnaaa

