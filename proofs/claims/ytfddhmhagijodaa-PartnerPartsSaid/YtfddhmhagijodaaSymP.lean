/- The order of places by rests, plain: greater rests first, among equal ones the lesser place; insertion keeps it. No program; Rotation, symmetric merge and the blocks of Go's stable sort, plain. No program. -/

namespace Go.Proofs.Ytfddhmhagijodaa

def cmpI (x y : Int) : Int := if x < y then -1 else if y < x then 1 else 0
/-- x comes before y. -/
def lss (rs : Int → Int) (x y : Int) : Prop := rs y < rs x ∨ (rs x = rs y ∧ x < y)
theorem lss_trans {rs : Int → Int} {x y z : Int} (h : lss rs x y) (k : lss rs y z) : lss rs x z := by unfold lss at *; omega
theorem lss_total {rs : Int → Int} {x y : Int} (h : x ≠ y) : lss rs x y ∨ lss rs y x := by unfold lss; omega
theorem lss_irrefl {rs : Int → Int} {x : Int} : ¬ lss rs x x := by unfold lss; omega
/-- Of a later and an earlier one the comparison of rests alone decides. -/
theorem lss_late {rs : Int → Int} {x y : Int} (h : y < x) : lss rs x y ↔ cmpI (rs y) (rs x) < 0 := by
  unfold lss cmpI
  split
  · omega
  · split <;> omega

def upd (d : Nat → Int) (i : Nat) (v : Int) : Nat → Int := fun k => if k = i then v else d k
def swf (d : Nat → Int) (i j : Nat) : Nat → Int := upd (upd d i (d j)) j (d i)
theorem swf_at (d : Nat → Int) (i j k : Nat) : swf d i j k = if k = j then d i else if k = i then d j else d k := by
  unfold swf upd; rfl

def Srt (rs : Int → Int) (d : Nat → Int) (a b : Nat) : Prop := ∀ i j, a ≤ i → i < j → j < b → lss rs (d i) (d j)
/-- The places from a to b hold what they held, in another order; the others are as they were. -/
structure Same (a b : Nat) (d d' : Nat → Int) : Prop where
  from_ : ∀ i, a ≤ i → i < b → ∃ j, a ≤ j ∧ j < b ∧ d' i = d j
  onto : ∀ j, a ≤ j → j < b → ∃ i, a ≤ i ∧ i < b ∧ d' i = d j
  out : ∀ i, ¬ (a ≤ i ∧ i < b) → d' i = d i
theorem Same.refl (a b : Nat) (d : Nat → Int) : Same a b d d := ⟨fun i h1 h2 => ⟨i, h1, h2, rfl⟩, fun i h1 h2 => ⟨i, h1, h2, rfl⟩, fun _ _ => rfl⟩
theorem Same.trans {a b : Nat} {d e f : Nat → Int} (h : Same a b d e) (k : Same a b e f) : Same a b d f :=
  ⟨fun i h1 h2 => by
    obtain ⟨j, j1, j2, e1⟩ := k.from_ i h1 h2
    obtain ⟨l, l1, l2, e2⟩ := h.from_ j j1 j2
    exact ⟨l, l1, l2, e1.trans e2⟩,
   fun i h1 h2 => by
    obtain ⟨j, j1, j2, e1⟩ := h.onto i h1 h2
    obtain ⟨l, l1, l2, e2⟩ := k.onto j j1 j2
    exact ⟨l, l1, l2, e2.trans e1⟩,
   fun i hi => (k.out i hi).trans (h.out i hi)⟩
theorem Same.wider {a b a' b' : Nat} {d e : Nat → Int} (h : Same a b d e) (ha : a' ≤ a) (hb : b ≤ b') : Same a' b' d e :=
  ⟨fun i h1 h2 => by
    by_cases hi : a ≤ i ∧ i < b
    · obtain ⟨j, j1, j2, e1⟩ := h.from_ i hi.1 hi.2
      exact ⟨j, by omega, by omega, e1⟩
    · exact ⟨i, h1, h2, h.out i hi⟩,
   fun i h1 h2 => by
    by_cases hi : a ≤ i ∧ i < b
    · obtain ⟨j, j1, j2, e1⟩ := h.onto i hi.1 hi.2
      exact ⟨j, by omega, by omega, e1⟩
    · exact ⟨i, h1, h2, h.out i hi⟩,
   fun i hi => h.out i (fun h' => hi ⟨by omega, by omega⟩)⟩
theorem Same.swap {a b : Nat} (d : Nat → Int) (i j : Nat) (hi : a ≤ i ∧ i < b) (hj : a ≤ j ∧ j < b) : Same a b d (swf d i j) :=
  ⟨fun k h1 h2 => by
    rw [swf_at]
    split
    · exact ⟨i, hi.1, hi.2, rfl⟩
    · split
      · exact ⟨j, hj.1, hj.2, rfl⟩
      · exact ⟨k, h1, h2, rfl⟩,
   fun k h1 h2 => by
    by_cases k1 : k = i
    · subst k1; exact ⟨j, hj.1, hj.2, by rw [swf_at, if_pos rfl]⟩
    · by_cases k2 : k = j
      · subst k2
        by_cases hji : i = k
        · subst hji; exact ⟨i, hi.1, hi.2, by rw [swf_at, if_pos rfl]⟩
        · exact ⟨i, hi.1, hi.2, by rw [swf_at, if_neg hji, if_pos rfl]⟩
      · exact ⟨k, h1, h2, by rw [swf_at, if_neg k2, if_neg k1]⟩,
   fun k hk => by rw [swf_at, if_neg (by rintro rfl; exact hk hj), if_neg (by rintro rfl; exact hk hi)]⟩

/-- In the midst of an insertion: the places from a to j are sorted, those behind j up to i too, all before j come before those behind; x stands at j and comes before those behind it. -/
structure Ins (rs : Int → Int) (d : Nat → Int) (a j i : Nat) : Prop where
  lo : Srt rs d a j
  hi : ∀ k, j < k → k ≤ i → lss rs (d j) (d k)
  hs : Srt rs d (j + 1) (i + 1)
  mid : ∀ k l, a ≤ k → k < j → j < l → l ≤ i → lss rs (d k) (d l)
theorem Ins.start {rs : Int → Int} {d : Nat → Int} {a i : Nat} (h : Srt rs d a i) : Ins rs d a i i :=
  ⟨h, fun k h1 h2 => by omega, fun k l h1 h2 h3 => by omega, fun k l h1 h2 h3 h4 => by omega⟩
theorem Ins.done {rs : Int → Int} {d : Nat → Int} {a j i : Nat} (h : Ins rs d a j i) (hj : a ≤ j) (hn : j = a ∨ lss rs (d (j - 1)) (d j)) (hji : j ≤ i) : Srt rs d a (i + 1) := by
  intro k l h1 h2 h3
  by_cases hl : l < j
  · exact h.lo k l h1 h2 hl
  · by_cases hl2 : l = j
    · subst hl2
      rcases hn with hn | hn
      · omega
      · by_cases hk : k = l - 1
        · subst hk; exact hn
        · exact lss_trans (h.lo k (l - 1) h1 (by omega) (by omega)) hn
    · by_cases hk : k < j
      · exact h.mid k l h1 hk (by omega) (by omega)
      · by_cases hk2 : k = j
        · subst hk2; exact h.hi l (by omega) (by omega)
        · exact h.hs k l (by omega) h2 h3
theorem Ins.step {rs : Int → Int} {d : Nat → Int} {a j i : Nat} (h : Ins rs d a j i) (hj : a < j) (hl : lss rs (d j) (d (j - 1))) (hji : j ≤ i) : Ins rs (swf d j (j - 1)) a (j - 1) i := by
  have e1 : swf d j (j - 1) (j - 1) = d j := by rw [swf_at, if_pos rfl]
  have e2 : swf d j (j - 1) j = d (j - 1) := by rw [swf_at, if_neg (by omega), if_pos rfl]
  have e3 : ∀ k, k ≠ j → k ≠ j - 1 → swf d j (j - 1) k = d k := fun k h1 h2 => by rw [swf_at, if_neg h2, if_neg h1]
  refine ⟨?_, ?_, ?_, ?_⟩
  · intro k l h1 h2 h3
    rw [e3 k (by omega) (by omega), e3 l (by omega) (by omega)]
    exact h.lo k l h1 h2 (by omega)
  · intro k h1 h2
    rw [e1]
    by_cases hk : k = j
    · subst hk; rw [e2]; exact hl
    · rw [e3 k hk (by omega)]; exact h.hi k (by omega) h2
  · intro k l h1 h2 h3
    rw [show j - 1 + 1 = j by omega] at h1
    rw [e3 l (by omega) (by omega)]
    by_cases hk : k = j
    · subst hk; rw [e2]; exact h.mid _ _ (by omega) (by omega) (by omega) (by omega)
    · rw [e3 k hk (by omega)]; exact h.hs k l (by omega) h2 h3
  · intro k l h1 h2 h3 h4
    rw [e3 k (by omega) (by omega)]
    by_cases hl2 : l = j
    · subst hl2; rw [e2]; exact h.lo k _ h1 h2 (by omega)
    · rw [e3 l hl2 (by omega)]; exact h.mid k l h1 (by omega) (by omega) h4

/-- The outer round of an insertion sort over places that held themselves: those from lo to i are sorted. -/
structure Out (rs : Int → Int) (d0 d : Nat → Int) (lo hi i : Nat) : Prop where
  srt : Srt rs d lo i
  same : Same lo hi d0 d
  less : ∀ k, lo ≤ k → k < i → k < hi → d k < i
  rest : ∀ k, i ≤ k → k < hi → d k = k
/-- The inner round: x = i stands at j. -/
structure Inn (rs : Int → Int) (d0 d : Nat → Int) (lo hi i j : Nat) : Prop where
  ins : Ins rs d lo j i
  same : Same lo hi d0 d
  at_ : d j = i
  less : ∀ k, lo ≤ k → k ≤ i → k ≠ j → d k < i
  rest : ∀ k, i < k → k < hi → d k = k
theorem Out.start {rs : Int → Int} {d0 : Nat → Int} {lo hi : Nat} (hid : ∀ i, lo ≤ i → i < hi → d0 i = i) : Out rs d0 d0 lo hi (lo + 1) :=
  ⟨fun i j h1 h2 h3 => by omega, Same.refl _ _ _, fun k h1 h2 h3 => by have := hid k h1 h3; omega, fun k h1 h2 => hid k (by omega) h2⟩
theorem Out.inner {rs : Int → Int} {d0 d : Nat → Int} {lo hi i : Nat} (h : Out rs d0 d lo hi i) (hi' : i < hi) : Inn rs d0 d lo hi i i :=
  ⟨Ins.start h.srt, h.same, h.rest i (Nat.le_refl _) hi', fun k h1 h2 h3 => h.less k h1 (by omega) (by omega), fun k h1 h2 => h.rest k (by omega) h2⟩
theorem Inn.step {rs : Int → Int} {d0 d : Nat → Int} {lo hi i j : Nat} (h : Inn rs d0 d lo hi i j) (hj : lo < j) (hji : j ≤ i) (hi' : i < hi) (hc : cmpI (rs (d (j - 1))) (rs (d j)) < 0) : Inn rs d0 (swf d j (j - 1)) lo hi i (j - 1) := by
  have hl : d (j - 1) < d j := by rw [h.at_]; exact h.less _ (by omega) (by omega) (by omega)
  refine ⟨h.ins.step hj ((lss_late hl).2 hc) hji, h.same.trans (Same.swap d j (j - 1) ⟨by omega, by omega⟩ ⟨by omega, by omega⟩), by rw [swf_at, if_pos rfl]; exact h.at_, ?_, ?_⟩
  · intro k h1 h2 h3
    rw [swf_at, if_neg h3]
    split
    · exact h.less _ (by omega) (by omega) (by omega)
    · rename_i hk; exact h.less k h1 h2 hk
  · intro k h1 h2
    rw [swf_at, if_neg (by omega), if_neg (by omega)]
    exact h.rest k h1 h2
theorem Inn.done {rs : Int → Int} {d0 d : Nat → Int} {lo hi i j : Nat} (h : Inn rs d0 d lo hi i j) (hj : lo ≤ j) (hji : j ≤ i) (hn : j = lo ∨ ¬ cmpI (rs (d (j - 1))) (rs (d j)) < 0) : Out rs d0 d lo hi (i + 1) := by
  have hn' : j = lo ∨ lss rs (d (j - 1)) (d j) := by
    rcases Nat.eq_or_lt_of_le hj with h0 | h0
    · exact .inl h0.symm
    · rcases hn with hn | hn
      · exact .inl hn
      · right
        have hl : d (j - 1) < d j := by rw [h.at_]; exact h.less _ (by omega) (by omega) (by omega)
        rcases lss_total (rs := rs) (show d (j - 1) ≠ d j by omega) with h' | h'
        · exact h'
        · exact absurd ((lss_late hl).1 h') hn
  refine ⟨h.ins.done hj hn' hji, h.same, fun k h1 h2 h3 => ?_, fun k h1 h2 => h.rest k (by omega) h2⟩
  by_cases hk : k = j
  · subst hk; rw [h.at_]; omega
  · have := h.less k h1 (by omega) hk; omega
end Go.Proofs.Ytfddhmhagijodaa

namespace Go.Proofs.Ytfddhmhagijodaa

/-- The blocks from x and from y, each of c places, swapped. -/
def swr (d : Nat → Int) (x y c : Nat) : Nat → Int := fun k => if x ≤ k ∧ k < x + c then d (k + (y - x)) else if y ≤ k ∧ k < y + c then d (k - (y - x)) else d k
theorem swr_zero (d : Nat → Int) (x y : Nat) : swr d x y 0 = d := by
  funext k; unfold swr; rw [if_neg (by omega), if_neg (by omega)]
theorem swr_x (d : Nat → Int) {x y c k : Nat} (h1 : x ≤ k) (h2 : k < x + c) : swr d x y c k = d (k + (y - x)) := by unfold swr; rw [if_pos ⟨h1, h2⟩]
theorem swr_y (d : Nat → Int) {x y c k : Nat} (h : x + c ≤ y) (h1 : y ≤ k) (h2 : k < y + c) : swr d x y c k = d (k - (y - x)) := by unfold swr; rw [if_neg (by omega), if_pos ⟨h1, h2⟩]
theorem swr_o (d : Nat → Int) {x y c k : Nat} (h1 : ¬ (x ≤ k ∧ k < x + c)) (h2 : ¬ (y ≤ k ∧ k < y + c)) : swr d x y c k = d k := by unfold swr; rw [if_neg h1, if_neg h2]
theorem swr_succ (d : Nat → Int) (x y c : Nat) (h : x + (c + 1) ≤ y) : swf (swr d x y c) (x + c) (y + c) = swr d x y (c + 1) := by
  funext k
  rw [swf_at]
  by_cases h1 : k = y + c
  · subst h1
    rw [if_pos rfl, swr_o _ (by omega) (by omega), swr_y _ h (by omega) (by omega)]
    congr 1; omega
  · rw [if_neg h1]
    by_cases h2 : k = x + c
    · subst h2
      rw [if_pos rfl, swr_o _ (by omega) (by omega), swr_x _ (by omega) (by omega)]
      congr 1; omega
    · rw [if_neg h2]
      by_cases h3 : x ≤ k ∧ k < x + c
      · rw [swr_x _ h3.1 h3.2, swr_x _ (by omega) (by omega)]
      · by_cases h4 : y ≤ k ∧ k < y + c
        · rw [swr_y _ (by omega) h4.1 h4.2, swr_y _ h (by omega) (by omega)]
        · rw [swr_o _ h3 h4, swr_o _ (by omega) (by omega)]

/-- The block from m to b set ahead of that from a to m. -/
def rotd (d : Nat → Int) (a m b : Nat) : Nat → Int := fun k => if k < a then d k else if k < a + (b - m) then d (k + (m - a)) else if k < b then d (k - (b - m)) else d k
theorem rotd_lo (d : Nat → Int) {a m b k : Nat} (h : k < a) : rotd d a m b k = d k := by unfold rotd; rw [if_pos h]
theorem rotd_l (d : Nat → Int) {a m b k : Nat} (h : a ≤ k) (h2 : k < a + (b - m)) : rotd d a m b k = d (k + (m - a)) := by unfold rotd; rw [if_neg (by omega), if_pos h2]
theorem rotd_r (d : Nat → Int) {a m b k : Nat} (h : a + (b - m) ≤ k) (h2 : k < b) : rotd d a m b k = d (k - (b - m)) := by unfold rotd; rw [if_neg (by omega), if_neg (by omega), if_pos h2]
theorem rotd_hi (d : Nat → Int) {a m b k : Nat} (h : b ≤ k) (h1 : a ≤ m) (h2 : m ≤ b) : rotd d a m b k = d k := by unfold rotd; rw [if_neg (by omega), if_neg (by omega), if_neg (by omega)]
theorem rotd_triv (d : Nat → Int) {a m b : Nat} (h1 : a ≤ m) (h2 : m ≤ b) (h : a = m ∨ m = b) : rotd d a m b = d := by
  funext k
  by_cases k1 : k < a
  · rw [rotd_lo _ k1]
  · by_cases k2 : k < a + (b - m)
    · rw [rotd_l _ (by omega) k2]; congr 1; omega
    · by_cases k3 : k < b
      · rw [rotd_r _ (by omega) k3]; congr 1; omega
      · rw [rotd_hi _ (by omega) h1 h2]
theorem rotd_same (d : Nat → Int) {a m b : Nat} (h1 : a ≤ m) (h2 : m ≤ b) : Same a b d (rotd d a m b) :=
  ⟨fun k k1 k2 => by
    by_cases k3 : k < a + (b - m)
    · exact ⟨k + (m - a), by omega, by omega, rotd_l _ k1 k3⟩
    · exact ⟨k - (b - m), by omega, by omega, rotd_r _ (by omega) k2⟩,
   fun k k1 k2 => by
    by_cases k3 : k < m
    · refine ⟨k + (b - m), by omega, by omega, ?_⟩
      rw [rotd_r _ (by omega) (by omega)]; congr 1; omega
    · refine ⟨k - (m - a), by omega, by omega, ?_⟩
      rw [rotd_l _ (by omega) (by omega)]; congr 1; omega,
   fun k hk => by
    by_cases k1 : k < a
    · exact rotd_lo _ k1
    · exact rotd_hi _ (by omega) h1 h2⟩

/-- A greater left block: its first places are swapped with the right block. -/
theorem rot_left (d : Nat → Int) (m i j : Nat) (hm : i ≤ m) (h : j ≤ i) : rotd (swr d (m - i) m j) (m - (i - j)) m (m + j) = rotd d (m - i) m (m + j) := by
  funext k
  by_cases h1 : k < m - i
  · rw [rotd_lo _ (by omega), rotd_lo _ h1, swr_o _ (by omega) (by omega)]
  · by_cases h2 : k < m - i + j
    · rw [rotd_lo _ (by omega), rotd_l d (by omega) (by omega), swr_x _ (by omega) (by omega)]
    · by_cases h3 : k < m + j
      · rw [rotd_r d (by omega) h3]
        by_cases h4 : k < m - (i - j) + (m + j - m)
        · rw [rotd_l _ (by omega) h4, swr_y _ (by omega) (by omega) (by omega)]
          congr 1; omega
        · rw [rotd_r _ (by omega) h3, swr_o _ (by omega) (by omega)]
      · rw [rotd_hi _ (by omega) (by omega) (by omega), rotd_hi _ (by omega) (by omega) (by omega), swr_o _ (by omega) (by omega)]
/-- A greater right block: its last places are swapped with the left block. -/
theorem rot_right (d : Nat → Int) (m i j : Nat) (hm : i ≤ m) (h : i ≤ j) : rotd (swr d (m - i) (m + j - i) i) (m - i) m (m + (j - i)) = rotd d (m - i) m (m + j) := by
  funext k
  by_cases h1 : k < m - i
  · rw [rotd_lo _ (by omega), rotd_lo _ h1, swr_o _ (by omega) (by omega)]
  · by_cases h2 : k < m - i + (j - i)
    · rw [rotd_l _ (by omega) (by omega), rotd_l d (by omega) (by omega), swr_o _ (by omega) (by omega)]
    · by_cases h3 : k < m + (j - i)
      · rw [rotd_r _ (by omega) h3, rotd_l d (by omega) (by omega), swr_x _ (by omega) (by omega)]
        congr 1; omega
      · by_cases h4 : k < m + j
        · rw [rotd_hi _ (by omega) (by omega) (by omega), rotd_r d (by omega) (by omega), swr_y _ (by omega) (by omega) (by omega)]
          congr 1; omega
        · rw [rotd_hi _ (by omega) (by omega) (by omega), rotd_hi _ (by omega) (by omega) (by omega), swr_o _ (by omega) (by omega)]
theorem rot_eq (d : Nat → Int) (m i : Nat) (hm : i ≤ m) : swr d (m - i) m i = rotd d (m - i) m (m + i) := by
  have h := rot_left d m i i hm (Nat.le_refl _)
  rw [← h, rotd_triv _ (by omega) (by omega) (by omega)]
/-- The place at the border moved up by one. -/
theorem rot_up (d : Nat → Int) (a k : Nat) (h : a ≤ k) : swf (rotd d a (a + 1) (k + 1)) k (k + 1) = rotd d a (a + 1) (k + 2) := by
  funext q
  rw [swf_at]
  by_cases h1 : q = k + 1
  · subst h1
    rw [if_pos rfl, rotd_r _ (by omega) (by omega), rotd_r _ (by omega) (by omega)]
    congr 1; omega
  · rw [if_neg h1]
    by_cases h2 : q = k
    · subst h2
      rw [if_pos rfl, rotd_hi _ (by omega) (by omega) (by omega), rotd_l _ (by omega) (by omega)]
      congr 1; omega
    · rw [if_neg h2]
      by_cases h3 : q < a
      · rw [rotd_lo _ h3, rotd_lo _ h3]
      · by_cases h4 : q < k
        · rw [rotd_l _ (by omega) (by omega), rotd_l _ (by omega) (by omega)]
        · rw [rotd_hi _ (by omega) (by omega) (by omega), rotd_hi _ (by omega) (by omega) (by omega)]
/-- The place at the border moved down by one. -/
theorem rot_down (d : Nat → Int) (k m : Nat) (h : k + 1 ≤ m) : swf (rotd d (k + 1) m (m + 1)) (k + 1) k = rotd d k m (m + 1) := by
  funext q
  rw [swf_at]
  by_cases h1 : q = k
  · subst h1
    rw [if_pos rfl, rotd_l _ (by omega) (by omega), rotd_l _ (by omega) (by omega)]
    congr 1; omega
  · rw [if_neg h1]
    by_cases h2 : q = k + 1
    · subst h2
      rw [if_pos rfl, rotd_lo _ (by omega), rotd_r _ (by omega) (by omega)]
      congr 1; omega
    · rw [if_neg h2]
      by_cases h3 : q < k
      · rw [rotd_lo _ (by omega), rotd_lo _ h3]
      · by_cases h4 : q < m + 1
        · rw [rotd_r _ (by omega) (by omega), rotd_r _ (by omega) (by omega)]
        · rw [rotd_hi _ (by omega) (by omega) (by omega), rotd_hi _ (by omega) (by omega) (by omega)]

/-- The left values are the lesser ones. -/
def Low (d : Nat → Int) (a m b : Nat) : Prop := ∀ i j, a ≤ i → i < m → m ≤ j → j < b → d i < d j
/-- All values of the left come before all of the right. -/
def Crs (rs : Int → Int) (d : Nat → Int) (a m b : Nat) : Prop := ∀ i j, a ≤ i → i < m → m ≤ j → j < b → lss rs (d i) (d j)
theorem Crs.srt {rs : Int → Int} {d : Nat → Int} {a m b : Nat} (h : Crs rs d a m b) (h1 : Srt rs d a m) (h2 : Srt rs d m b) : Srt rs d a b := by
  intro i j hi hij hj
  by_cases k1 : j < m
  · exact h1 i j hi hij k1
  · by_cases k2 : i < m
    · exact h i j hi k2 (by omega) hj
    · exact h2 i j (by omega) hij hj
theorem Crs.sameL {rs : Int → Int} {d e : Nat → Int} {a m b : Nat} (h : Crs rs d a m b) (hs : Same a m d e) : Crs rs e a m b := by
  intro i j hi hm hmj hj
  obtain ⟨k, k1, k2, e1⟩ := hs.from_ i hi hm
  rw [e1, hs.out j (by omega)]
  exact h k j k1 k2 hmj hj
theorem Crs.sameR {rs : Int → Int} {d e : Nat → Int} {a m b : Nat} (h : Crs rs d a m b) (hs : Same m b d e) : Crs rs e a m b := by
  intro i j hi hm hmj hj
  obtain ⟨k, k1, k2, e1⟩ := hs.from_ j hmj hj
  rw [e1, hs.out i (by omega)]
  exact h i k hi hm k1 k2
theorem Srt.out {rs : Int → Int} {d e : Nat → Int} {a b x y : Nat} (h : Srt rs d a b) (hs : Same x y d e) (hd : b ≤ x ∨ y ≤ a) : Srt rs e a b := by
  intro i j hi hij hj
  rw [hs.out i (by omega), hs.out j (by omega)]
  exact h i j hi hij hj
theorem Low.out {d e : Nat → Int} {a m b x y : Nat} (h : Low d a m b) (hs : Same x y d e) (hd : b ≤ x ∨ y ≤ a) : Low e a m b := by
  intro i j hi hij hj hb
  rw [hs.out i (by omega), hs.out j (by omega)]
  exact h i j hi hij hj hb

/-- Where the two sorted blocks are cut: what stands ahead of the cuts comes before what stands behind them. -/
structure Cut (rs : Int → Int) (d : Nat → Int) (a m b s e : Nat) : Prop where
  h1 : a ≤ s
  h2 : s ≤ m
  h3 : m ≤ e
  h4 : e ≤ b
  rl : ∀ i j, s ≤ i → i < m → m ≤ j → j < e → lss rs (d j) (d i)
  lr : ∀ i j, a ≤ i → i < s → e ≤ j → j < b → lss rs (d i) (d j)
theorem Cut.crs {rs : Int → Int} {d : Nat → Int} {a m b s e : Nat} (h : Cut rs d a m b s e) (h1 : Srt rs d a m) (h2 : Srt rs d m b) (q : Nat) (hq : q = s + (e - m)) : Crs rs (rotd d s m e) a q b := by
  obtain ⟨g1, g2, g3, g4, rl, lr⟩ := h
  subst hq
  intro i j hi him hmj hj
  by_cases k1 : i < s
  · rw [rotd_lo _ k1]
    by_cases k2 : j < e
    · rw [rotd_r _ hmj k2]; exact h1 _ _ hi (by omega) (by omega)
    · rw [rotd_hi _ (by omega) g2 g3]; exact lr _ _ hi k1 (by omega) hj
  · rw [rotd_l _ (by omega) him]
    by_cases k2 : j < e
    · rw [rotd_r _ hmj k2]; exact rl _ _ (by omega) (by omega) (by omega) (by omega)
    · rw [rotd_hi _ (by omega) g2 g3]; exact h2 _ _ (by omega) (by omega) hj
theorem Cut.parts {rs : Int → Int} {d : Nat → Int} {a m b s e : Nat} (h : Cut rs d a m b s e) (h1 : Srt rs d a m) (h2 : Srt rs d m b) (hl : Low d a m b) (q : Nat) (hq : q = s + (e - m)) :
    Srt rs (rotd d s m e) a s ∧ Srt rs (rotd d s m e) s q ∧ Low (rotd d s m e) a s q ∧ Srt rs (rotd d s m e) q e ∧ Srt rs (rotd d s m e) e b ∧ Low (rotd d s m e) q e b := by
  obtain ⟨g1, g2, g3, g4, rl, lr⟩ := h
  subst hq
  refine ⟨?_, ?_, ?_, ?_, ?_, ?_⟩
  · intro i j hi hij hj; rw [rotd_lo _ (by omega), rotd_lo _ hj]; exact h1 _ _ hi hij (by omega)
  · intro i j hi hij hj; rw [rotd_l _ (by omega) (by omega), rotd_l _ (by omega) hj]; exact h2 _ _ (by omega) (by omega) (by omega)
  · intro i j hi hij hj hb; rw [rotd_lo _ hij, rotd_l _ (by omega) hb]; exact hl _ _ hi (by omega) (by omega) (by omega)
  · intro i j hi hij hj; rw [rotd_r _ hi (by omega), rotd_r _ (by omega) hj]; exact h1 _ _ (by omega) (by omega) (by omega)
  · intro i j hi hij hj; rw [rotd_hi _ hi g2 g3, rotd_hi _ (by omega) g2 g3]; exact h2 _ _ (by omega) (by omega) hj
  · intro i j hi hij hj hb; rw [rotd_r _ hi hij, rotd_hi _ hj g2 g3]; exact hl _ _ (by omega) (by omega) (by omega) hb

/-- One value on the left, set behind those of the right that come before it. -/
theorem one_left {rs : Int → Int} {d : Nat → Int} {a b i : Nat} (h2 : Srt rs d (a + 1) b) (hi : a + 1 ≤ i) (hb : i ≤ b) (hx : ∀ k, a + 1 ≤ k → k < i → lss rs (d k) (d a)) (hy : ∀ k, i ≤ k → k < b → lss rs (d a) (d k)) : Srt rs (rotd d a (a + 1) i) a b := by
  intro k l h1 hkl hl
  by_cases k1 : l < a + (i - (a + 1))
  · rw [rotd_l _ (by omega) (by omega), rotd_l _ (by omega) k1]; exact h2 _ _ (by omega) (by omega) (by omega)
  · by_cases k2 : l < i
    · rw [rotd_l _ (by omega) (by omega), rotd_r _ (by omega) k2, show l - (i - (a + 1)) = a by omega]; exact hx _ (by omega) (by omega)
    · rw [rotd_hi (k := l) _ (by omega) (by omega) (by omega)]
      by_cases k3 : k < a + (i - (a + 1))
      · rw [rotd_l _ (by omega) k3]; exact h2 _ _ (by omega) (by omega) hl
      · by_cases k4 : k < i
        · rw [rotd_r _ (by omega) k4, show k - (i - (a + 1)) = a by omega]; exact hy _ (by omega) hl
        · rw [rotd_hi _ (by omega) (by omega) (by omega)]; exact h2 _ _ (by omega) (by omega) hl
/-- One value on the right, set ahead of those of the left that come behind it. -/
theorem one_right {rs : Int → Int} {d : Nat → Int} {a m i : Nat} (h1 : Srt rs d a m) (hi : a ≤ i) (hb : i ≤ m) (hx : ∀ k, a ≤ k → k < i → lss rs (d k) (d m)) (hy : ∀ k, i ≤ k → k < m → lss rs (d m) (d k)) : Srt rs (rotd d i m (m + 1)) a (m + 1) := by
  intro k l hk hkl hl
  by_cases k1 : l < i
  · rw [rotd_lo _ (by omega), rotd_lo _ k1]; exact h1 _ _ hk hkl (by omega)
  · by_cases k2 : l = i
    · subst k2
      rw [rotd_lo _ hkl, rotd_l _ (by omega) (by omega), show l + (m - l) = m by omega]; exact hx _ hk hkl
    · rw [rotd_r (k := l) _ (by omega) hl]
      by_cases k3 : k < i
      · rw [rotd_lo _ k3]; exact h1 _ _ hk (by omega) (by omega)
      · by_cases k4 : k = i
        · subst k4
          rw [rotd_l _ (by omega) (by omega), show k + (m - k) = m by omega]; exact hy _ (by omega) (by omega)
        · rw [rotd_r _ (by omega) (by omega)]; exact h1 _ _ (by omega) (by omega) (by omega)

/-- A search for the first place of a sorted block that does not come before x. -/
structure Fnd (rs : Int → Int) (d : Nat → Int) (x : Int) (lo hi i j : Nat) : Prop where
  h1 : lo ≤ i
  h2 : i ≤ j
  h3 : j ≤ hi
  lt : ∀ k, lo ≤ k → k < i → lss rs (d k) x
  gt : ∀ k, j ≤ k → k < hi → lss rs x (d k)
theorem Fnd.start {rs : Int → Int} {d : Nat → Int} {x : Int} {lo hi : Nat} (h : lo ≤ hi) : Fnd rs d x lo hi lo hi := ⟨Nat.le_refl _, h, Nat.le_refl _, fun k h1 h2 => by omega, fun k h1 h2 => by omega⟩
theorem Fnd.up {rs : Int → Int} {d : Nat → Int} {x : Int} {lo hi i j c : Nat} (h : Fnd rs d x lo hi i j) (hs : Srt rs d lo hi) (h1 : i ≤ c) (h2 : c < j) (hc : lss rs (d c) x) : Fnd rs d x lo hi (c + 1) j :=
  ⟨by have := h.h1; omega, by omega, h.h3, fun k k1 k2 => by
    rcases Nat.lt_succ_iff_lt_or_eq.1 k2 with h' | rfl
    · exact lss_trans (hs k c k1 h' (by have := h.h3; omega)) hc
    · exact hc, h.gt⟩
theorem Fnd.down {rs : Int → Int} {d : Nat → Int} {x : Int} {lo hi i j c : Nat} (h : Fnd rs d x lo hi i j) (hs : Srt rs d lo hi) (h1 : i ≤ c) (h2 : c < j) (hc : lss rs x (d c)) : Fnd rs d x lo hi i c :=
  ⟨h.h1, h1, by have := h.h3; omega, h.lt, fun k k1 k2 => by
    rcases Nat.lt_or_eq_of_le k1 with h' | rfl
    · exact lss_trans hc (hs c k (by have := h.h1; omega) h' k2)
    · exact hc⟩

/-- The symmetric search. -/
structure Sym (rs : Int → Int) (d : Nat → Int) (p lo hi s r : Nat) : Prop where
  h1 : lo ≤ s
  h2 : s ≤ r
  h3 : r ≤ hi
  lt : ∀ c, lo ≤ c → c < s → lss rs (d c) (d (p - c))
  gt : ∀ c, r ≤ c → c < hi → lss rs (d (p - c)) (d c)
theorem Sym.start {rs : Int → Int} {d : Nat → Int} {p lo hi : Nat} (h : lo ≤ hi) : Sym rs d p lo hi lo hi := ⟨Nat.le_refl _, h, Nat.le_refl _, fun k h1 h2 => by omega, fun k h1 h2 => by omega⟩
theorem Sym.up {rs : Int → Int} {d : Nat → Int} {p lo hi s r c a m b : Nat} (h : Sym rs d p lo hi s r) (hl : Srt rs d a m) (hr : Srt rs d m b) (q1 : a ≤ lo) (q2 : hi ≤ m) (q3 : p < b + lo) (q4 : m + hi ≤ p + 1) (h1 : s ≤ c) (h2 : c < r) (hc : lss rs (d c) (d (p - c))) : Sym rs d p lo hi (c + 1) r :=
  ⟨by have := h.h1; omega, by omega, h.h3, fun k k1 k2 => by
    have := h.h3
    rcases Nat.lt_succ_iff_lt_or_eq.1 k2 with h' | rfl
    · exact lss_trans (lss_trans (hl k c (by omega) h' (by omega)) hc) (hr (p - c) (p - k) (by omega) (by omega) (by omega))
    · exact hc, h.gt⟩
theorem Sym.down {rs : Int → Int} {d : Nat → Int} {p lo hi s r c a m b : Nat} (h : Sym rs d p lo hi s r) (hl : Srt rs d a m) (hr : Srt rs d m b) (q1 : a ≤ lo) (q2 : hi ≤ m) (q3 : p < b + lo) (q4 : m + hi ≤ p + 1) (h1 : s ≤ c) (h2 : c < r) (hc : lss rs (d (p - c)) (d c)) : Sym rs d p lo hi s c :=
  ⟨h.h1, h1, by have := h.h3; omega, h.lt, fun k k1 k2 => by
    have := h.h1
    rcases Nat.lt_or_eq_of_le k1 with h' | rfl
    · exact lss_trans (hr (p - k) (p - c) (by omega) (by omega) (by omega)) (lss_trans hc (hl c k (by omega) h' (by omega)))
    · exact hc⟩
theorem Sym.cut {rs : Int → Int} {d : Nat → Int} {lo hi s a m b mid : Nat} (h : Sym rs d (mid + m - 1) lo hi s s) (hl : Srt rs d a m) (hr : Srt rs d m b) (hm : mid = (a + b) / 2) (h1 : a < m) (h2 : m < b)
    (hc : (mid < m ∧ lo = mid + m - b ∧ hi = mid) ∨ (m ≤ mid ∧ lo = a ∧ hi = m)) : Cut rs d a m b s (mid + m - s) := by
  obtain ⟨g1, g2, g3, lt, gt⟩ := h
  refine ⟨by omega, by omega, by omega, by omega, fun i j k1 k2 k3 k4 => ?_, fun i j k1 k2 k3 k4 => ?_⟩
  · have hg := gt s (Nat.le_refl _) (by omega)
    have a1 : lss rs (d j) (d s) := by
      rcases Nat.lt_or_eq_of_le (show j ≤ mid + m - 1 - s by omega) with h' | h'
      · exact lss_trans (hr _ _ k3 h' (by omega)) hg
      · rw [h']; exact hg
    rcases Nat.lt_or_eq_of_le k1 with h' | h'
    · exact lss_trans a1 (hl _ _ (by omega) h' k2)
    · rw [← h']; exact a1
  · have hg := lt (s - 1) (by omega) (by omega)
    have a1 : lss rs (d i) (d (mid + m - 1 - (s - 1))) := by
      rcases Nat.lt_or_eq_of_le (show i ≤ s - 1 by omega) with h' | h'
      · exact lss_trans (hl _ _ k1 h' (by omega)) hg
      · rw [h']; exact hg
    rcases Nat.lt_or_eq_of_le (show mid + m - 1 - (s - 1) ≤ j by omega) with h' | h'
    · exact lss_trans a1 (hr _ _ (by omega) h' k4)
    · rw [← h']; exact a1

/-- A block of s places from p on: it is sorted, and holds its own places. -/
def Blk (rs : Int → Int) (d : Nat → Int) (n p s : Nat) : Prop := Srt rs d p (min (p + s) n) ∧ ∀ i, p ≤ i → i < p + s → i < n → (p : Int) ≤ d i ∧ d i < (p : Int) + s
theorem Blk.out {rs : Int → Int} {d e : Nat → Int} {n p s x y : Nat} (h : Blk rs d n p s) (hs : Same x y d e) (hd : p + s ≤ x ∨ y ≤ p) : Blk rs e n p s :=
  ⟨h.1.out hs (by omega), fun i h1 h2 h3 => by rw [hs.out i (by omega)]; exact h.2 i h1 h2 h3⟩
theorem Blk.empty (rs : Int → Int) (d : Nat → Int) {n p s : Nat} (h : n ≤ p) : Blk rs d n p s := ⟨fun i j h1 h2 h3 => by omega, fun i h1 h2 h3 => by omega⟩
/-- The blocks of 20, made one by one. -/
def Made (rs : Int → Int) (d : Nat → Int) (n a : Nat) : Prop := (∀ p, 20 ∣ p → p < a → Blk rs d n p 20) ∧ (∀ i, a ≤ i → i < n → d i = i)
theorem Made.start {rs : Int → Int} {d : Nat → Int} {n : Nat} (h : ∀ i, i < n → d i = i) : Made rs d n 0 := ⟨fun p _ h => by omega, fun i _ h2 => h i h2⟩
theorem Made.next {rs : Int → Int} {d e : Nat → Int} {n a b : Nat} (h : Made rs d n a) (ha : 20 ∣ a) (hb : b = min (a + 20) n) (hs : Same a b d e) (hr : Srt rs e a b) : Made rs e n (a + 20) := by
  refine ⟨fun p hp hpa => ?_, fun i h1 h2 => by rw [hs.out i (by omega)]; exact h.2 i (by omega) h2⟩
  by_cases hlt : p < a
  · exact (h.1 p hp hlt).out hs (by omega)
  · obtain rfl : p = a := by omega
    refine ⟨hb ▸ hr, fun i h1 h2 h3 => ?_⟩
    obtain ⟨j, j1, j2, ej⟩ := hs.from_ i h1 (by omega)
    rw [ej, h.2 j j1 (by omega)]
    omega
/-- The blocks up to a are of 2 s places, the others of s. -/
def Mrg (rs : Int → Int) (d : Nat → Int) (n s a : Nat) : Prop := (∀ p, 2 * s ∣ p → p < a → Blk rs d n p (2 * s)) ∧ (∀ p, s ∣ p → a ≤ p → Blk rs d n p s)
theorem Made.mrg {rs : Int → Int} {d : Nat → Int} {n a : Nat} (h : Made rs d n a) (ha : n ≤ a) : Mrg rs d n 20 0 :=
  ⟨fun p _ h => by omega, fun p hp _ => by
    by_cases hlt : p < a
    · exact h.1 p hp hlt
    · exact Blk.empty _ _ (by omega)⟩
theorem dvd_le_of_lt {s p a : Nat} (h1 : s ∣ p) (h2 : s ∣ a) (h : p < a) : p + s ≤ a := by
  have := Nat.le_of_dvd (by omega) (Nat.dvd_sub h2 h1)
  omega
theorem two_dvd {s p : Nat} (h : 2 * s ∣ p) : s ∣ p := Nat.dvd_trans ⟨2, by omega⟩ h
theorem Mrg.low {rs : Int → Int} {d : Nat → Int} {n s a : Nat} (h : Mrg rs d n s a) (ha : 2 * s ∣ a) (hn : a + s < n) :
    Srt rs d a (a + s) ∧ Srt rs d (a + s) (min (a + 2 * s) n) ∧ Low d a (a + s) (min (a + 2 * s) n) := by
  have h1 := h.2 a (two_dvd ha) (Nat.le_refl _)
  have h2 := h.2 (a + s) (Nat.dvd_add (two_dvd ha) (Nat.dvd_refl _)) (by omega)
  refine ⟨?_, ?_, fun i j k1 k2 k3 k4 => ?_⟩
  · have := h1.1; rwa [show min (a + s) n = a + s by omega] at this
  · have := h2.1; rwa [show min (a + s + s) n = min (a + 2 * s) n by omega] at this
  · have := h1.2 i k1 k2 (by omega)
    have := h2.2 j k3 (by omega) (by omega)
    omega
theorem Mrg.next {rs : Int → Int} {d e : Nat → Int} {n s a : Nat} (h : Mrg rs d n s a) (ha : 2 * s ∣ a) (hn : a + s < n) (hs : Same a (min (a + 2 * s) n) d e) (hr : Srt rs e a (min (a + 2 * s) n)) : Mrg rs e n s (a + 2 * s) := by
  refine ⟨fun p hp hpa => ?_, fun p hp hpa => (h.2 p hp (by omega)).out hs (by omega)⟩
  by_cases hlt : p < a
  · have := dvd_le_of_lt hp ha hlt
    exact (h.1 p hp hlt).out hs (by omega)
  · obtain rfl : p = a := by
      rcases Nat.lt_or_eq_of_le (show a ≤ p by omega) with h' | h'
      · have := dvd_le_of_lt ha hp h'; omega
      · exact h'.symm
    refine ⟨hr, fun i h1 h2 h3 => ?_⟩
    obtain ⟨j, j1, j2, ej⟩ := hs.from_ i h1 (by omega)
    rw [ej]
    have g1 := h.2 p (two_dvd ha) (Nat.le_refl _)
    have g2 := h.2 (p + s) (Nat.dvd_add (two_dvd ha) (Nat.dvd_refl _)) (by omega)
    by_cases hj : j < p + s
    · have := g1.2 j j1 hj (by omega); omega
    · have := g2.2 j (by omega) (by omega) (by omega); omega
/-- The last block has no neighbour. -/
theorem Mrg.last {rs : Int → Int} {d : Nat → Int} {n s a : Nat} (h : Mrg rs d n s a) (ha : 2 * s ∣ a) (hn : n ≤ a + s) : Mrg rs d n s (a + 2 * s) := by
  refine ⟨fun p hp hpa => ?_, fun p hp hpa => h.2 p hp (by omega)⟩
  by_cases hlt : p < a
  · exact h.1 p hp hlt
  · obtain rfl : p = a := by
      rcases Nat.lt_or_eq_of_le (show a ≤ p by omega) with h' | h'
      · have := dvd_le_of_lt ha hp h'; omega
      · exact h'.symm
    have g1 := h.2 p (two_dvd ha) (Nat.le_refl _)
    refine ⟨?_, fun i h1 h2 h3 => ?_⟩
    · have := g1.1; rwa [show min (p + s) n = min (p + 2 * s) n by omega] at this
    · have := g1.2 i h1 (by omega) h3; omega
theorem Mrg.turn {rs : Int → Int} {d : Nat → Int} {n s a : Nat} (h : Mrg rs d n s a) (hn : n ≤ a) : Mrg rs d n (2 * s) 0 :=
  ⟨fun p _ h => by omega, fun p hp _ => by
    by_cases hlt : p < a
    · exact h.1 p hp hlt
    · exact Blk.empty _ _ (by omega)⟩
theorem Mrg.done {rs : Int → Int} {d : Nat → Int} {n s : Nat} (h : Mrg rs d n s 0) (hn : n ≤ s) : Srt rs d 0 n := by
  have := (h.2 0 (Nat.dvd_zero _) (Nat.le_refl _)).1
  rwa [show min (0 + s) n = n by omega] at this
end Go.Proofs.Ytfddhmhagijodaa
