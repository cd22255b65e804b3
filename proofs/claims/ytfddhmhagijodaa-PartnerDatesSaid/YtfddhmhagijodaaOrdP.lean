/- The order of places by rests, plain: greater rests first, among equal ones the lesser place; insertion keeps it. No program. -/
namespace Go.Proofs.Ytfddhmhagijodaa

def cmpI (x y : Int) : Int := if x < y then -1 else if y < x then 1 else 0
/-- x comes before y. -/
def lss (rs : Int → Int) (x y : Int) : Prop := rs y < rs x ∨ (rs x = rs y ∧ x < y)
theorem lss_trans {rs : Int → Int} {x y z : Int} (h : lss rs x y) (k : lss rs y z) : lss rs x z := by unfold lss at *; omega
theorem lss_total {rs : Int → Int} {x y : Int} (h : x ≠ y) : lss rs x y ∨ lss rs y x := by unfold lss; omega
theorem lss_irrefl {rs : Int → Int} {x : Int} : ¬ lss rs x x := by unfold lss; omega
/-- Of a later and an earlier one the comparison of rests alone decides. -/
theorem lss_late {rs : Int → Int} {x y : Int} (h : y < x) : lss rs x y ↔ cmpI (rs y) (rs x) < 0 := by
  unfold lss cmpI
  split
  · omega
  · split <;> omega

def upd (d : Nat → Int) (i : Nat) (v : Int) : Nat → Int := fun k => if k = i then v else d k
def swf (d : Nat → Int) (i j : Nat) : Nat → Int := upd (upd d i (d j)) j (d i)
theorem swf_at (d : Nat → Int) (i j k : Nat) : swf d i j k = if k = j then d i else if k = i then d j else d k := by
  unfold swf upd; rfl

def Srt (rs : Int → Int) (d : Nat → Int) (a b : Nat) : Prop := ∀ i j, a ≤ i → i < j → j < b → lss rs (d i) (d j)
/-- The places from a to b hold what they held, in another order; the others are as they were. -/
structure Same (a b : Nat) (d d' : Nat → Int) : Prop where
  from_ : ∀ i, a ≤ i → i < b → ∃ j, a ≤ j ∧ j < b ∧ d' i = d j
  onto : ∀ j, a ≤ j → j < b → ∃ i, a ≤ i ∧ i < b ∧ d' i = d j
  out : ∀ i, ¬ (a ≤ i ∧ i < b) → d' i = d i
theorem Same.refl (a b : Nat) (d : Nat → Int) : Same a b d d := ⟨fun i h1 h2 => ⟨i, h1, h2, rfl⟩, fun i h1 h2 => ⟨i, h1, h2, rfl⟩, fun _ _ => rfl⟩
theorem Same.trans {a b : Nat} {d e f : Nat → Int} (h : Same a b d e) (k : Same a b e f) : Same a b d f :=
  ⟨fun i h1 h2 => by
    obtain ⟨j, j1, j2, e1⟩ := k.from_ i h1 h2
    obtain ⟨l, l1, l2, e2⟩ := h.from_ j j1 j2
    exact ⟨l, l1, l2, e1.trans e2⟩,
   fun i h1 h2 => by
    obtain ⟨j, j1, j2, e1⟩ := h.onto i h1 h2
    obtain ⟨l, l1, l2, e2⟩ := k.onto j j1 j2
    exact ⟨l, l1, l2, e2.trans e1⟩,
   fun i hi => (k.out i hi).trans (h.out i hi)⟩
theorem Same.wider {a b a' b' : Nat} {d e : Nat → Int} (h : Same a b d e) (ha : a' ≤ a) (hb : b ≤ b') : Same a' b' d e :=
  ⟨fun i h1 h2 => by
    by_cases hi : a ≤ i ∧ i < b
    · obtain ⟨j, j1, j2, e1⟩ := h.from_ i hi.1 hi.2
      exact ⟨j, by omega, by omega, e1⟩
    · exact ⟨i, h1, h2, h.out i hi⟩,
   fun i h1 h2 => by
    by_cases hi : a ≤ i ∧ i < b
    · obtain ⟨j, j1, j2, e1⟩ := h.onto i hi.1 hi.2
      exact ⟨j, by omega, by omega, e1⟩
    · exact ⟨i, h1, h2, h.out i hi⟩,
   fun i hi => h.out i (fun h' => hi ⟨by omega, by omega⟩)⟩
theorem Same.swap {a b : Nat} (d : Nat → Int) (i j : Nat) (hi : a ≤ i ∧ i < b) (hj : a ≤ j ∧ j < b) : Same a b d (swf d i j) :=
  ⟨fun k h1 h2 => by
    rw [swf_at]
    split
    · exact ⟨i, hi.1, hi.2, rfl⟩
    · split
      · exact ⟨j, hj.1, hj.2, rfl⟩
      · exact ⟨k, h1, h2, rfl⟩,
   fun k h1 h2 => by
    by_cases k1 : k = i
    · subst k1; exact ⟨j, hj.1, hj.2, by rw [swf_at, if_pos rfl]⟩
    · by_cases k2 : k = j
      · subst k2
        by_cases hji : i = k
        · subst hji; exact ⟨i, hi.1, hi.2, by rw [swf_at, if_pos rfl]⟩
        · exact ⟨i, hi.1, hi.2, by rw [swf_at, if_neg hji, if_pos rfl]⟩
      · exact ⟨k, h1, h2, by rw [swf_at, if_neg k2, if_neg k1]⟩,
   fun k hk => by rw [swf_at, if_neg (by rintro rfl; exact hk hj), if_neg (by rintro rfl; exact hk hi)]⟩

/-- In the midst of an insertion: the places from a to j are sorted, those behind j up to i too, all before j come before those behind; x stands at j and comes before those behind it. -/
structure Ins (rs : Int → Int) (d : Nat → Int) (a j i : Nat) : Prop where
  lo : Srt rs d a j
  hi : ∀ k, j < k → k ≤ i → lss rs (d j) (d k)
  hs : Srt rs d (j + 1) (i + 1)
  mid : ∀ k l, a ≤ k → k < j → j < l → l ≤ i → lss rs (d k) (d l)
theorem Ins.start {rs : Int → Int} {d : Nat → Int} {a i : Nat} (h : Srt rs d a i) : Ins rs d a i i :=
  ⟨h, fun k h1 h2 => by omega, fun k l h1 h2 h3 => by omega, fun k l h1 h2 h3 h4 => by omega⟩
theorem Ins.done {rs : Int → Int} {d : Nat → Int} {a j i : Nat} (h : Ins rs d a j i) (hj : a ≤ j) (hn : j = a ∨ lss rs (d (j - 1)) (d j)) (hji : j ≤ i) : Srt rs d a (i + 1) := by
  intro k l h1 h2 h3
  by_cases hl : l < j
  · exact h.lo k l h1 h2 hl
  · by_cases hl2 : l = j
    · subst hl2
      rcases hn with hn | hn
      · omega
      · by_cases hk : k = l - 1
        · subst hk; exact hn
        · exact lss_trans (h.lo k (l - 1) h1 (by omega) (by omega)) hn
    · by_cases hk : k < j
      · exact h.mid k l h1 hk (by omega) (by omega)
      · by_cases hk2 : k = j
        · subst hk2; exact h.hi l (by omega) (by omega)
        · exact h.hs k l (by omega) h2 h3
theorem Ins.step {rs : Int → Int} {d : Nat → Int} {a j i : Nat} (h : Ins rs d a j i) (hj : a < j) (hl : lss rs (d j) (d (j - 1))) (hji : j ≤ i) : Ins rs (swf d j (j - 1)) a (j - 1) i := by
  have e1 : swf d j (j - 1) (j - 1) = d j := by rw [swf_at, if_pos rfl]
  have e2 : swf d j (j - 1) j = d (j - 1) := by rw [swf_at, if_neg (by omega), if_pos rfl]
  have e3 : ∀ k, k ≠ j → k ≠ j - 1 → swf d j (j - 1) k = d k := fun k h1 h2 => by rw [swf_at, if_neg h2, if_neg h1]
  refine ⟨?_, ?_, ?_, ?_⟩
  · intro k l h1 h2 h3
    rw [e3 k (by omega) (by omega), e3 l (by omega) (by omega)]
    exact h.lo k l h1 h2 (by omega)
  · intro k h1 h2
    rw [e1]
    by_cases hk : k = j
    · subst hk; rw [e2]; exact hl
    · rw [e3 k hk (by omega)]; exact h.hi k (by omega) h2
  · intro k l h1 h2 h3
    rw [show j - 1 + 1 = j by omega] at h1
    rw [e3 l (by omega) (by omega)]
    by_cases hk : k = j
    · subst hk; rw [e2]; exact h.mid _ _ (by omega) (by omega) (by omega) (by omega)
    · rw [e3 k hk (by omega)]; exact h.hs k l (by omega) h2 h3
  · intro k l h1 h2 h3 h4
    rw [e3 k (by omega) (by omega)]
    by_cases hl2 : l = j
    · subst hl2; rw [e2]; exact h.lo k _ h1 h2 (by omega)
    · rw [e3 l hl2 (by omega)]; exact h.mid k l h1 (by omega) (by omega) h4

/-- The outer round of an insertion sort over places that held themselves: those from lo to i are sorted. -/
structure Out (rs : Int → Int) (d0 d : Nat → Int) (lo hi i : Nat) : Prop where
  srt : Srt rs d lo i
  same : Same lo hi d0 d
  less : ∀ k, lo ≤ k → k < i → k < hi → d k < i
  rest : ∀ k, i ≤ k → k < hi → d k = k
/-- The inner round: x = i stands at j. -/
structure Inn (rs : Int → Int) (d0 d : Nat → Int) (lo hi i j : Nat) : Prop where
  ins : Ins rs d lo j i
  same : Same lo hi d0 d
  at_ : d j = i
  less : ∀ k, lo ≤ k → k ≤ i → k ≠ j → d k < i
  rest : ∀ k, i < k → k < hi → d k = k
theorem Out.start {rs : Int → Int} {d0 : Nat → Int} {lo hi : Nat} (hid : ∀ i, lo ≤ i → i < hi → d0 i = i) : Out rs d0 d0 lo hi (lo + 1) :=
  ⟨fun i j h1 h2 h3 => by omega, Same.refl _ _ _, fun k h1 h2 h3 => by have := hid k h1 h3; omega, fun k h1 h2 => hid k (by omega) h2⟩
theorem Out.inner {rs : Int → Int} {d0 d : Nat → Int} {lo hi i : Nat} (h : Out rs d0 d lo hi i) (hi' : i < hi) : Inn rs d0 d lo hi i i :=
  ⟨Ins.start h.srt, h.same, h.rest i (Nat.le_refl _) hi', fun k h1 h2 h3 => h.less k h1 (by omega) (by omega), fun k h1 h2 => h.rest k (by omega) h2⟩
theorem Inn.step {rs : Int → Int} {d0 d : Nat → Int} {lo hi i j : Nat} (h : Inn rs d0 d lo hi i j) (hj : lo < j) (hji : j ≤ i) (hi' : i < hi) (hc : cmpI (rs (d (j - 1))) (rs (d j)) < 0) : Inn rs d0 (swf d j (j - 1)) lo hi i (j - 1) := by
  have hl : d (j - 1) < d j := by rw [h.at_]; exact h.less _ (by omega) (by omega) (by omega)
  refine ⟨h.ins.step hj ((lss_late hl).2 hc) hji, h.same.trans (Same.swap d j (j - 1) ⟨by omega, by omega⟩ ⟨by omega, by omega⟩), by rw [swf_at, if_pos rfl]; exact h.at_, ?_, ?_⟩
  · intro k h1 h2 h3
    rw [swf_at, if_neg h3]
    split
    · exact h.less _ (by omega) (by omega) (by omega)
    · rename_i hk; exact h.less k h1 h2 hk
  · intro k h1 h2
    rw [swf_at, if_neg (by omega), if_neg (by omega)]
    exact h.rest k h1 h2
theorem Inn.done {rs : Int → Int} {d0 d : Nat → Int} {lo hi i j : Nat} (h : Inn rs d0 d lo hi i j) (hj : lo ≤ j) (hji : j ≤ i) (hn : j = lo ∨ ¬ cmpI (rs (d (j - 1))) (rs (d j)) < 0) : Out rs d0 d lo hi (i + 1) := by
  have hn' : j = lo ∨ lss rs (d (j - 1)) (d j) := by
    rcases Nat.eq_or_lt_of_le hj with h0 | h0
    · exact .inl h0.symm
    · rcases hn with hn | hn
      · exact .inl hn
      · right
        have hl : d (j - 1) < d j := by rw [h.at_]; exact h.less _ (by omega) (by omega) (by omega)
        rcases lss_total (rs := rs) (show d (j - 1) ≠ d j by omega) with h' | h'
        · exact h'
        · exact absurd ((lss_late hl).1 h') hn
  refine ⟨h.ins.done hj hn' hji, h.same, fun k h1 h2 h3 => ?_, fun k h1 h2 => h.rest k (by omega) h2⟩
  by_cases hk : k = j
  · subst hk; rw [h.at_]; omega
  · have := h.less k h1 (by omega) hk; omega
end Go.Proofs.Ytfddhmhagijodaa
