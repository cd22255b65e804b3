/- Sums of lines by accounts, plain: the list of sums does not depend on the order of the lines. No program is walked. -/
import Derived.Test.YtfddhmhagijodaaJrnP
namespace Go.Proofs.Ytfddhmhagijodaa
set_option linter.unusedSimpArgs false
set_option linter.unusedVariables false

/-- The total of an account. -/
def tot : List Plc → Int → Int
  | [], _ => 0
  | p :: t, c => (if p.acc = c then p.amt else 0) + tot t c
theorem tot_append (L M : List Plc) (c : Int) : tot (L ++ M) c = tot L c + tot M c := by
  induction L with
  | nil => simp [tot]
  | cons p L ih => rw [List.cons_append, tot, tot, ih]; omega
theorem tot_perm {L M : List Plc} (h : L.Perm M) (c : Int) : tot L c = tot M c := by
  induction h with
  | nil => rfl
  | cons p _ ih => rw [tot, tot, ih]
  | swap p q l => simp only [tot]; omega
  | trans _ _ h1 h2 => exact h1.trans h2
theorem tot_zero {L : List Plc} {c : Int} (h : ∀ p ∈ L, p.acc ≠ c) : tot L c = 0 := by
  induction L with
  | nil => rfl
  | cons p L ih => rw [tot, if_neg (h p (List.mem_cons_self ..)), ih (fun q hq => h q (List.mem_cons_of_mem _ hq))]; rfl
/-- A number as 64 bits hold it. -/
def wr64 (n : Int) : Int := (n + 9223372036854775808) % 18446744073709551616 - 9223372036854775808
theorem wr64_add (a b : Int) : wr64 (wr64 a + b) = wr64 (a + b) := by unfold wr64; omega
theorem wr64_add2 (a b : Int) : wr64 (wr64 a + wr64 b) = wr64 (a + b) := by unfold wr64; omega
theorem wr64_rng (a : Int) : -9223372036854775808 ≤ wr64 a ∧ wr64 a ≤ 9223372036854775807 := by unfold wr64; omega
theorem wr64_same {a : Int} (h : -9223372036854775808 ≤ a ∧ a ≤ 9223372036854775807) : wr64 a = a := by unfold wr64; omega
/-- The sum of an account: what a map of sums has. -/
def sumF (L : List Plc) (c : Int) : Option Int := if L.any (fun p => decide (p.acc = c)) then some (wr64 (tot L c)) else none
theorem sumF_nil (c : Int) : sumF [] c = none := rfl
theorem tot_none {L : List Plc} {c : Int} (h : L.any (fun p => decide (p.acc = c)) = false) : tot L c = 0 := by
  refine tot_zero fun p hp e => ?_
  have := List.any_eq_false.1 h p hp
  simp [e] at this
theorem sumF_getD (L : List Plc) (c : Int) : (sumF L c).getD 0 = wr64 (tot L c) := by
  unfold sumF
  split
  · rfl
  · rename_i h
    rw [tot_none (by simpa using h)]; rfl
theorem sumF_snoc (L : List Plc) (p : Plc) : sumF (L ++ [p]) p.acc = some (wr64 ((sumF L p.acc).getD 0 + p.amt)) := by
  rw [sumF_getD, wr64_add]
  unfold sumF
  rw [if_pos (by simp), tot_append]
  simp [tot]
theorem sumF_other (L : List Plc) (p : Plc) (c : Int) (h : c ≠ p.acc) : sumF (L ++ [p]) c = sumF L c := by
  have h2 : p.acc ≠ c := fun e => h e.symm
  unfold sumF
  rw [List.any_append, tot_append]
  simp [tot, h2]
theorem sumF_rng {L : List Plc} {c x : Int} (h : sumF L c = some x) : -9223372036854775808 ≤ x ∧ x ≤ 9223372036854775807 := by
  unfold sumF at h
  split at h
  · cases h; exact wr64_rng _
  · cases h
theorem sumF_some {L : List Plc} {c : Int} : (sumF L c).isSome = true ↔ ∃ p ∈ L, p.acc = c := by
  unfold sumF
  split
  · rename_i h; simpa using h
  · rename_i h; simpa using h
/-- Ascending accounts. -/
def AscN (l : List Bal) : Prop := l.Pairwise (fun a b => a.acc < b.acc)
/-- The list says the sums. -/
def NetIs (L : List Plc) (l : List Bal) : Prop := AscN l ∧ ∀ x, x ∈ l ↔ sumF L x.acc = some x.amount
def nzN (l : List Bal) : List Bal := l.filter (fun x => x.amount != 0)
/-- The list says the sums that are not 0. -/
def NetZ (L : List Plc) (l : List Bal) : Prop := AscN l ∧ ∀ x, x ∈ l ↔ x.amount ≠ 0 ∧ x.amount = wr64 (tot L x.acc)
theorem NetIs.nz {L : List Plc} {l : List Bal} (h : NetIs L l) : NetZ L (nzN l) := by
  refine ⟨h.1.filter _, fun x => ?_⟩
  unfold nzN
  rw [List.mem_filter, h.2]
  constructor
  · rintro ⟨h1, h2⟩
    have h3 := sumF_getD L x.acc
    rw [h1] at h3
    exact ⟨by simpa using h2, h3⟩
  · rintro ⟨h1, h2⟩
    refine ⟨?_, by simpa using h1⟩
    have h3 := sumF_getD L x.acc
    cases hs : sumF L x.acc with
    | none => rw [hs, ← h2] at h3; exact absurd h3.symm h1
    | some y => rw [hs, ← h2] at h3; exact congrArg some h3
theorem netz_ext {L M : List Plc} {l m : List Bal} (hl : NetZ L l) (hm : NetZ M m) (h : ∀ c, wr64 (tot L c) = wr64 (tot M c)) : l = m := by
  refine sorted_ext (fun a b : Bal => a.acc < b.acc) (fun x => Int.lt_irrefl _) (fun x y z => Int.lt_trans) l m hl.1 hm.1 fun x => ?_
  rw [hl.2, hm.2, h]
/-- A sum set among sorted ones. -/
def putN : List Bal → Int → Int → List Bal
  | [], a, n => [⟨a, n⟩]
  | x :: t, a, n => if x.acc < a then x :: putN t a n else if x.acc = a then ⟨a, wr64 (x.amount + n)⟩ :: t else ⟨a, n⟩ :: x :: t
theorem putN_mem {l : List Bal} (h : AscN l) (a n : Int) (x : Bal) : x ∈ putN l a n ↔ (x.acc ≠ a ∧ x ∈ l) ∨ (x.acc = a ∧ ((∃ y ∈ l, y.acc = a ∧ x.amount = wr64 (y.amount + n)) ∨ ((∀ y ∈ l, y.acc ≠ a) ∧ x.amount = n))) := by
  obtain ⟨xa, xn⟩ := x
  induction l with
  | nil =>
    simp only [putN, List.mem_singleton, Bal.mk.injEq, List.not_mem_nil, and_false, false_or, false_and, exists_false]
    constructor
    · rintro ⟨rfl, rfl⟩; exact ⟨rfl, fun y h => absurd h (by simp), rfl⟩
    · rintro ⟨rfl, _, rfl⟩; exact ⟨rfl, rfl⟩
  | cons y t ih =>
    obtain ⟨ya, yn⟩ := y
    unfold AscN at h
    rw [List.pairwise_cons] at h
    have ih := ih h.2
    have hlt := h.1
    simp only at hlt ih
    unfold putN
    simp only
    by_cases h1 : ya < a
    · rw [if_pos h1, List.mem_cons, ih, List.mem_cons]
      simp only [Bal.mk.injEq, List.mem_cons, forall_eq_or_imp, exists_eq_or_imp]
      have hne : ya ≠ a := by omega
      constructor
      · rintro (⟨rfl, rfl⟩ | ⟨e, h2⟩ | ⟨e, h2⟩)
        · exact .inl ⟨hne, .inl ⟨rfl, rfl⟩⟩
        · exact .inl ⟨e, .inr h2⟩
        · refine .inr ⟨e, ?_⟩
          rcases h2 with h2 | ⟨h2, h3⟩
          · exact .inl (.inr h2)
          · exact .inr ⟨⟨hne, h2⟩, h3⟩
      · rintro (⟨e, h2⟩ | ⟨e, h2⟩)
        · rcases h2 with h2 | h2
          · exact .inl h2
          · exact .inr (.inl ⟨e, h2⟩)
        · refine .inr (.inr ⟨e, ?_⟩)
          rcases h2 with h2 | ⟨⟨_, h2⟩, h3⟩
          · rcases h2 with h2 | h2
            · exact absurd h2.1 hne
            · exact .inl h2
          · exact .inr ⟨h2, h3⟩
    · rw [if_neg h1]
      by_cases h2 : ya = a
      · subst h2
        rw [if_pos rfl, List.mem_cons, List.mem_cons]
        simp only [Bal.mk.injEq, List.mem_cons, forall_eq_or_imp, exists_eq_or_imp]
        have hno : ∀ z ∈ t, z.acc ≠ ya := fun z hz e => by have := hlt z hz; omega
        constructor
        · rintro (⟨rfl, rfl⟩ | h3)
          · exact .inr ⟨rfl, .inl (.inl (by simp))⟩
          · exact .inl ⟨hno _ h3, .inr h3⟩
        · rintro (⟨e, ⟨h3, _⟩ | h3⟩ | ⟨e, h3 | ⟨⟨h3, _⟩, _⟩⟩)
          · exact absurd h3 e
          · exact .inr h3
          · rcases h3 with ⟨_, h3⟩ | ⟨z, hz, e2, _⟩
            · exact .inl ⟨e, h3⟩
            · exact absurd e2 (hno z hz)
          · exact absurd rfl h3
      · rw [if_neg h2, List.mem_cons, List.mem_cons]
        simp only [Bal.mk.injEq, List.mem_cons, forall_eq_or_imp, exists_eq_or_imp]
        have hno : ∀ z ∈ t, z.acc ≠ a := fun z hz e => by have := hlt z hz; omega
        constructor
        · rintro (⟨rfl, rfl⟩ | h3 | h3)
          · exact .inr ⟨rfl, .inr ⟨⟨h2, hno⟩, rfl⟩⟩
          · exact .inl ⟨by rw [h3.1]; exact h2, .inl h3⟩
          · exact .inl ⟨hno _ h3, .inr h3⟩
        · rintro (⟨e, h3⟩ | ⟨e, h3 | ⟨_, h3⟩⟩)
          · exact .inr h3
          · rcases h3 with ⟨h3, _⟩ | ⟨z, hz, e2, _⟩
            · exact absurd h3 h2
            · exact absurd e2 (hno z hz)
          · exact .inl ⟨e, h3⟩
theorem putN_asc {l : List Bal} (h : AscN l) (a n : Int) : AscN (putN l a n) := by
  induction l with
  | nil => unfold putN AscN; simp
  | cons y t ih =>
    have h0 := h
    unfold AscN at h
    rw [List.pairwise_cons] at h
    unfold putN
    split
    · rename_i h1
      unfold AscN
      rw [List.pairwise_cons]
      refine ⟨fun x hx => ?_, ih h.2⟩
      rcases (putN_mem h.2 a n x).1 hx with ⟨_, h3⟩ | ⟨h3, _⟩
      · exact h.1 x h3
      · rw [h3]; exact h1
    · rename_i h1
      split
      · rename_i h2
        unfold AscN
        rw [List.pairwise_cons]
        exact ⟨fun x hx => by rw [← h2]; exact h.1 x hx, h.2⟩
      · rename_i h2
        unfold AscN
        rw [List.pairwise_cons]
        refine ⟨fun x hx => ?_, h0⟩
        rcases List.mem_cons.1 hx with rfl | hx
        · show a < x.acc; omega
        · have := h.1 x hx; show a < x.acc; omega
theorem NetIs.nil : NetIs [] [] := ⟨List.Pairwise.nil, fun x => by simp [sumF_nil]⟩
theorem NetIs.put {L : List Plc} {l : List Bal} (h : NetIs L l) (p : Plc) (hp : -9223372036854775808 ≤ p.amt ∧ p.amt ≤ 9223372036854775807) : NetIs (L ++ [p]) (putN l p.acc p.amt) := by
  refine ⟨putN_asc h.1 _ _, fun x => ?_⟩
  rw [putN_mem h.1]
  by_cases e : x.acc = p.acc
  · rw [e, sumF_snoc]
    simp only [ne_eq, not_true_eq_false, false_and, false_or, true_and, Option.some.injEq]
    cases hs : sumF L p.acc with
    | none =>
      have hno : ∀ y ∈ l, y.acc ≠ p.acc := fun y hy e2 => by have := (h.2 y).1 hy; rw [e2, hs] at this; cases this
      rw [Option.getD_none, Int.zero_add, wr64_same hp]
      constructor
      · rintro (⟨y, hy, e2, _⟩ | ⟨_, h3⟩)
        · exact absurd e2 (hno y hy)
        · exact h3.symm
      · intro h3; exact .inr ⟨hno, h3.symm⟩
    | some z =>
      have hz : (⟨p.acc, z⟩ : Bal) ∈ l := (h.2 _).2 hs
      rw [Option.getD_some]
      constructor
      · rintro (⟨y, hy, e2, h3⟩ | ⟨h3, _⟩)
        · have := (h.2 y).1 hy
          rw [e2, hs] at this
          rw [h3, ← Option.some.inj this]
        · exact absurd rfl (h3 _ hz)
      · intro h3; exact .inl ⟨_, hz, rfl, h3.symm⟩
  · rw [sumF_other L p _ e]
    constructor
    · rintro (⟨_, h3⟩ | ⟨h3, _⟩)
      · exact (h.2 x).1 h3
      · exact absurd h3 e
    · intro h3; exact .inl ⟨e, (h.2 x).2 h3⟩
theorem putN_len (l : List Bal) (a n : Int) : (putN l a n).length ≤ l.length + 1 := by
  induction l with
  | nil => simp [putN]
  | cons y t ih => unfold putN; split <;> (try split) <;> simp <;> omega
/-- What the sorted keys of a map of sums give. -/
theorem net_keys {L : List Plc} (ks : List Int) (hk : ks.Pairwise (· < ·)) (hm : ∀ c, c ∈ ks ↔ (sumF L c).isSome = true) : NetIs L (ks.map (fun c => ⟨c, (sumF L c).getD 0⟩)) := by
  refine ⟨?_, fun x => ?_⟩
  · unfold AscN; rw [List.pairwise_map]; exact hk
  · rw [List.mem_map]
    constructor
    · rintro ⟨c, hc, rfl⟩
      obtain ⟨y, hy⟩ := Option.isSome_iff_exists.1 ((hm c).1 hc)
      simp [hy]
    · intro h
      exact ⟨x.acc, (hm _).2 (by rw [h]; rfl), by rw [h]; rfl⟩
end Go.Proofs.Ytfddhmhagijodaa
