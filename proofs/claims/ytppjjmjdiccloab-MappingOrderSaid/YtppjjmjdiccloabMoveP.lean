/- Move, plain: balances by the accounts of the group. No program. -/
import Derived.Test.YtppjjmjdiccloabAtP
namespace Go.Proofs.Ytppjjmjdiccloab

def amtB (n : Int) : Bool := decide (-1000000000000 ≤ n) && decide (n ≤ 1000000000000)
theorem amtB_true {n : Int} : amtB n = true ↔ -1000000000000 ≤ n ∧ n ≤ 1000000000000 := by simp [amtB]
theorem amtB_false {n : Int} : amtB n = false ↔ n < -1000000000000 ∨ 1000000000000 < n := by simp only [amtB, Bool.and_eq_false_iff, decide_eq_false_iff_not]; omega
/-- Accounts strictly ascending. -/
def AscB (l : List Bal) : Prop := l.Pairwise (fun a b => a.acc < b.acc)
/-- The element at k is as it has to be. -/
def okAt (l : List Bal) (k : Nat) : Bool := match l[k]? with
  | none => true
  | some x => amtB x.amount && (k == 0 || match l[k-1]? with | none => true | some y => decide (y.acc < x.acc))
def ascB (l : List Bal) : Bool := (List.range l.length).all (okAt l)
theorem okAt_zero {l : List Bal} (h : 0 < l.length) : okAt l 0 = amtB l[0].amount := by
  unfold okAt; rw [List.getElem?_eq_getElem h]; simp
theorem okAt_succ {l : List Bal} {k : Nat} (h : k + 1 < l.length) : okAt l (k + 1) = (amtB l[k + 1].amount && decide (l[k].acc < l[k + 1].acc)) := by
  unfold okAt; rw [List.getElem?_eq_getElem h]
  have : k + 1 - 1 = k := by omega
  simp only [this]
  rw [List.getElem?_eq_getElem (by omega)]
  simp
theorem ascB_bad {l : List Bal} {k : Nat} (h : k < l.length) (hb : okAt l k = false) : ascB l = false := by
  unfold ascB
  rw [List.all_eq_false]
  exact ⟨k, by simpa using h, by simp [hb]⟩
theorem ascB_good {l : List Bal} (h : ∀ k, k < l.length → okAt l k = true) : ascB l = true := by
  unfold ascB
  rw [List.all_eq_true]
  intro k hk
  exact h k (by simpa using hk)
theorem ascB_amt {l : List Bal} (h : ascB l = true) : ∀ x ∈ l, amtB x.amount = true := by
  intro x hx
  obtain ⟨k, hk, rfl⟩ := List.getElem_of_mem hx
  unfold ascB at h
  have h1 := List.all_eq_true.1 h k (by simpa using hk)
  unfold okAt at h1
  rw [List.getElem?_eq_getElem hk] at h1
  simp at h1
  exact h1.1

/-- An amount is added to the balance of an account, in ascending order. -/
def putS : List Bal → Int → Int → List Bal
  | [], acc, n => [⟨acc, n⟩]
  | x :: l, acc, n => if x.acc = acc then ⟨x.acc, x.amount + n⟩ :: l else if acc < x.acc then ⟨acc, n⟩ :: x :: l else x :: putS l acc n
theorem putS_hit {l : List Bal} {acc n : Int} {k : Nat} (hk : k < l.length) (h : ∀ j (hj : j < l.length), j < k → l[j].acc < acc) (he : l[k].acc = acc) : putS l acc n = l.set k ⟨acc, l[k].amount + n⟩ := by
  induction l generalizing k with
  | nil => exact absurd hk (Nat.not_lt_zero _)
  | cons x l ih =>
    cases k with
    | zero => simp only [List.getElem_cons_zero] at he ⊢; rw [putS, if_pos he, List.set_cons_zero, he]
    | succ k =>
      have h0 := h 0 (by simp) (by omega)
      simp only [List.getElem_cons_zero] at h0
      rw [putS, if_neg (by omega), if_neg (by omega), List.set_cons_succ]
      rw [ih (k := k) (by simpa using hk) (fun j hj hjk => by have := h (j + 1) (by simpa using hj) (by omega); simpa using this) (by simpa using he)]
      rfl
theorem putS_new {l : List Bal} {acc n : Int} {k : Nat} (hk : k ≤ l.length) (h : ∀ j (hj : j < l.length), j < k → l[j].acc < acc) (h2 : ∀ hk : k < l.length, acc < l[k].acc) : putS l acc n = l.take k ++ [⟨acc, n⟩] ++ l.drop k := by
  induction l generalizing k with
  | nil => have : k = 0 := by simpa using hk
           subst this; rfl
  | cons x l ih =>
    cases k with
    | zero =>
      have := h2 (by simp)
      simp only [List.getElem_cons_zero] at this
      rw [putS, if_neg (by omega), if_pos this]; rfl
    | succ k =>
      have h0 := h 0 (by simp) (by omega)
      simp only [List.getElem_cons_zero] at h0
      rw [putS, if_neg (by omega), if_neg (by omega), ih (k := k) (by simpa using hk) (fun j hj hjk => by have := h (j + 1) (by simpa using hj) (by omega); simpa using this) (fun hk' => by have := h2 (by simpa using hk'); simpa using this)]
      rfl
theorem putS_len (l : List Bal) (acc n : Int) : (putS l acc n).length ≤ l.length + 1 := by
  induction l with
  | nil => simp [putS]
  | cons x l ih => rw [putS]; split; simp; split; simp; simp; exact ih
/-- The balance of an account. -/
def balOf (l : List Bal) (acc : Int) : Option Int := (l.find? (fun x => x.acc == acc)).map Bal.amount
theorem balOf_putS (l : List Bal) (acc n c : Int) (ha : AscB l) : balOf (putS l acc n) c = if c = acc then some ((balOf l acc).getD 0 + n) else balOf l c := by
  induction l with
  | nil =>
    by_cases h : c = acc
    · subst h; simp [putS, balOf]
    · rw [if_neg h]; simp [putS, balOf, Ne.symm h]
  | cons x l ih =>
    have ha' : AscB l := (List.pairwise_cons.1 ha).2
    have hlt := (List.pairwise_cons.1 ha).1
    rw [putS]
    by_cases h1 : x.acc = acc
    · rw [if_pos h1]
      by_cases h : c = acc
      · subst h; simp [balOf, h1]
      · rw [if_neg h]; simp [balOf, h1, Ne.symm h]
    · rw [if_neg h1]
      by_cases h2 : acc < x.acc
      · rw [if_pos h2]
        by_cases h : c = acc
        · subst h
          have hn : balOf (x :: l) c = none := by
            unfold balOf
            rw [List.find?_eq_none.2]
            · rfl
            · intro y hy
              rcases List.mem_cons.1 hy with rfl | hy
              · simpa using h1
              · have := hlt y hy; simp; omega
          rw [if_pos rfl, hn]; simp [balOf]
        · rw [if_neg h]; simp [balOf, Ne.symm h]
      · rw [if_neg h2]
        have e : ∀ m : List Bal, ∀ q, balOf (x :: m) q = if x.acc = q then some x.amount else balOf m q := fun m q => by
          unfold balOf
          rw [List.find?_cons]
          by_cases hq : x.acc = q
          · simp [hq]
          · rw [if_neg hq, show (x.acc == q) = false by simpa using hq]
        rw [e, e, e, ih ha']
        by_cases h : c = acc
        · subst h; rw [if_neg h1, if_pos rfl, if_pos rfl, if_neg h1]
        · rw [if_neg h, if_neg h]
theorem putS_mem {l : List Bal} {acc n : Int} {y : Bal} (h : y ∈ putS l acc n) : y.acc = acc ∨ y ∈ l := by
  induction l with
  | nil => simp [putS] at h; exact .inl (by rw [h])
  | cons x l ih =>
    rw [putS] at h
    split at h
    · rcases List.mem_cons.1 h with rfl | h
      · rename_i h1; exact .inl h1
      · exact .inr (by simp [h])
    · split at h
      · rcases List.mem_cons.1 h with rfl | h
        · exact .inl rfl
        · exact .inr h
      · rcases List.mem_cons.1 h with rfl | h
        · exact .inr (by simp)
        · rcases ih h with h | h
          · exact .inl h
          · exact .inr (by simp [h])
theorem putS_asc {l : List Bal} (ha : AscB l) (acc n : Int) : AscB (putS l acc n) := by
  induction l with
  | nil => simp [putS, AscB]
  | cons x l ih =>
    have ha' : AscB l := (List.pairwise_cons.1 ha).2
    have hlt := (List.pairwise_cons.1 ha).1
    rw [putS]
    split
    · exact List.pairwise_cons.2 ⟨hlt, ha'⟩
    · split
      · rename_i h1 h2
        exact List.pairwise_cons.2 ⟨fun y hy => by
          rcases List.mem_cons.1 hy with rfl | hy
          · exact h2
          · have := hlt y hy; show acc < y.acc; omega, ha⟩
      · rename_i h1 h2
        exact List.pairwise_cons.2 ⟨fun y hy => by
          rcases putS_mem hy with h | h
          · omega
          · exact hlt y h, ih ha'⟩
theorem putS_bd {l : List Bal} {acc n : Int} {B : Int} (h : ∀ x ∈ l, -B ≤ x.amount ∧ x.amount ≤ B) (hB : 0 ≤ B) (hn : -1000000000000 ≤ n ∧ n ≤ 1000000000000) : ∀ x ∈ putS l acc n, -(B + 1000000000000) ≤ x.amount ∧ x.amount ≤ B + 1000000000000 := by
  induction l with
  | nil => intro x hx; simp [putS] at hx; subst hx; exact ⟨by show _ ≤ n; omega, by show n ≤ _; omega⟩
  | cons y l ih =>
    intro x hx
    have hy := h y (by simp)
    have hl := fun z hz => h z (List.mem_cons_of_mem y hz)
    rw [putS] at hx
    split at hx
    · rcases List.mem_cons.1 hx with rfl | hx
      · exact ⟨by show _ ≤ y.amount + n; omega, by show y.amount + n ≤ _; omega⟩
      · have := hl x hx; omega
    · split at hx
      · rcases List.mem_cons.1 hx with rfl | hx
        · exact ⟨by show _ ≤ n; omega, by show n ≤ _; omega⟩
        · have := h x hx; omega
      · rcases List.mem_cons.1 hx with rfl | hx
        · omega
        · exact ih hl x hx
/-- One balance moved. -/
def stepG (c : List Acc) (l : List Lnk) (day : Int) (st : List Bal × Int) (b : Bal) : List Bal × Int :=
  if st.2 ≠ 0 then st else if (atS c l b.acc day).2 ≠ 0 then ([], (atS c l b.acc day).2) else (putS st.1 (atS c l b.acc day).1 b.amount, 0)
def runG (c : List Acc) (l : List Lnk) (day : Int) (bs : List Bal) : List Bal × Int := bs.foldl (stepG c l day) ([], 0)
def lastS (g : List Bal) : List Bal × Int := if g.all (fun x => amtB x.amount) = true then (g.filter (fun x => x.amount != 0), 0) else ([], 2)
/-- The result of Move. -/
def moveS (c : List Acc) (l : List Lnk) (bs : List Bal) (day : Int) : List Bal × Int :=
  if ascB bs = false then ([], 1) else if (runG c l day bs).2 ≠ 0 then ([], (runG c l day bs).2) else lastS (runG c l day bs).1
theorem runG_snoc (c : List Acc) (l : List Lnk) (day : Int) (bs : List Bal) (b : Bal) : runG c l day (bs ++ [b]) = stepG c l day (runG c l day bs) b := by simp [runG, List.foldl_append]
theorem stepG_stop {c : List Acc} {l : List Lnk} {day : Int} {st : List Bal × Int} (h : st.2 ≠ 0) (bs : List Bal) : bs.foldl (stepG c l day) st = st := by
  induction bs with
  | nil => rfl
  | cons b bs ih => rw [List.foldl_cons, stepG, if_pos h, ih]
theorem runG_fail {c : List Acc} {l : List Lnk} {day : Int} {bs : List Bal} {k : Nat} (hk : k < bs.length) (h : (runG c l day (bs.take k)).2 = 0) (hf : (atS c l bs[k].acc day).2 ≠ 0) : runG c l day bs = ([], (atS c l bs[k].acc day).2) := by
  have e : bs = bs.take (k + 1) ++ bs.drop (k + 1) := (List.take_append_drop _ _).symm
  have e1 : runG c l day (bs.take (k + 1)) = ([], (atS c l bs[k].acc day).2) := by
    rw [List.take_succ_eq_append_getElem hk, runG_snoc, stepG, if_neg (by simp [h]), if_pos hf]
  rw [runG]
  conv => lhs; rw [e]
  rw [List.foldl_append]
  have e2 : (bs.take (k + 1)).foldl (stepG c l day) ([], 0) = ([], (atS c l bs[k].acc day).2) := e1
  rw [e2]
  exact stepG_stop hf _
theorem runG_step {c : List Acc} {l : List Lnk} {day : Int} {bs : List Bal} {k : Nat} (hk : k < bs.length) (h : (runG c l day (bs.take k)).2 = 0) (hf : (atS c l bs[k].acc day).2 = 0) : runG c l day (bs.take (k + 1)) = (putS (runG c l day (bs.take k)).1 (atS c l bs[k].acc day).1 bs[k].amount, 0) := by
  rw [List.take_succ_eq_append_getElem hk, runG_snoc, stepG, if_neg (by simp [h]), if_neg (by simp [hf])]
theorem runG_asc (c : List Acc) (l : List Lnk) (day : Int) (bs : List Bal) : AscB (runG c l day bs).1 := by
  have : ∀ (bs : List Bal) (st : List Bal × Int), AscB st.1 → AscB (bs.foldl (stepG c l day) st).1 := by
    intro bs
    induction bs with
    | nil => intro st h; exact h
    | cons b bs ih =>
      intro st h
      rw [List.foldl_cons]
      apply ih
      unfold stepG
      split
      · exact h
      · split
        · exact List.Pairwise.nil
        · exact putS_asc h _ _
  exact this bs _ List.Pairwise.nil
end Go.Proofs.Ytppjjmjdiccloab
