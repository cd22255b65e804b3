/- Moving changes no sums: the plain part. -/
import Derived.Test.YtppjjmjdiccloabMValidP
import Derived.Test.YtppjjmjdiccloabMoveP
namespace Go.Proofs.Ytppjjmjdiccloab
set_option linter.unusedSimpArgs false

/-- Is the account of the kind? -/
def inK (c : List Acc) (kind acc : Int) : Bool := kind == 0 || (match findA c acc with | none => false | some a => a.kind == kind)
def sumK (c : List Acc) (b : List Bal) (kind : Int) : Int := (b.map fun x => if inK c kind x.acc = true then x.amount else 0).sum
theorem sumK_nil (c : List Acc) (kind : Int) : sumK c [] kind = 0 := rfl
theorem sumK_cons (c : List Acc) (x : Bal) (b : List Bal) (kind : Int) : sumK c (x :: b) kind = (if inK c kind x.acc = true then x.amount else 0) + sumK c b kind := by simp [sumK]
theorem sumK_snoc (c : List Acc) (x : Bal) (b : List Bal) (kind : Int) : sumK c (b ++ [x]) kind = sumK c b kind + (if inK c kind x.acc = true then x.amount else 0) := by simp [sumK, List.sum_append]
theorem sumK_put (c : List Acc) (kind acc n : Int) (g : List Bal) : sumK c (putS g acc n) kind = sumK c g kind + (if inK c kind acc = true then n else 0) := by
  induction g with
  | nil => simp [putS, sumK]
  | cons x g ih =>
    rw [putS]
    split
    · rename_i h
      rw [sumK_cons, sumK_cons, h]
      show (if inK c kind acc = true then x.amount + n else 0) + _ = _
      split <;> omega
    · split
      · rw [sumK_cons, sumK_cons]
        show (if inK c kind acc = true then n else 0) + _ = _
        omega
      · rw [sumK_cons, sumK_cons, ih]; omega
theorem sumK_filter (c : List Acc) (kind : Int) (g : List Bal) : sumK c (g.filter fun x => x.amount != 0) kind = sumK c g kind := by
  induction g with
  | nil => rfl
  | cons x g ih =>
    rw [List.filter_cons]
    by_cases h : x.amount = 0
    · rw [if_neg (by simpa using h), ih, sumK_cons, h]; simp
    · rw [if_pos (by simpa using h), sumK_cons, sumK_cons, ih]
theorem mvalidB_link {en : Ent} {c : List Acc} (h : mvalidB en c = true) : ∀ m ∈ en.links, linkB en.chart c m = true := by
  intro m hm
  obtain ⟨k, hk, rfl⟩ := List.getElem_of_mem hm
  unfold mvalidB at h
  rw [Bool.and_eq_true] at h
  have h1 := List.all_eq_true.1 h.2 k (List.mem_range.2 hk)
  rw [okL_at hk, Bool.and_eq_true] at h1
  exact h1.2
theorem at_kind {en : Ent} {c : List Acc} (h : mvalidB en c = true) {code day : Int} (he : (atS en.chart en.links code day).2 = 0) (kind : Int) :
    inK c kind (atS en.chart en.links code day).1 = inK en.chart kind code := by
  unfold atS at he ⊢
  split at he
  · cases he
  · rename_i h0
    rw [if_neg h0]
    split at he
    · cases he
    · rename_i h1
      rw [if_neg h1]
      cases hb : bestL (cands en.links code day) with
      | none => rw [hb] at he; cases he
      | some m =>
        have hm := bestL_mem hb
        unfold cands at hm
        rw [List.mem_filter] at hm
        obtain ⟨hm1, hm2⟩ := hm
        unfold candB at hm2
        rw [Bool.and_eq_true, beq_iff_eq] at hm2
        have hl := mvalidB_link h m hm1
        unfold linkB at hl
        rw [hm2.1] at hl
        show inK c kind m.to = _
        unfold inK
        cases ha : findA en.chart code with
        | none => rw [ha] at hl; cases hl
        | some a =>
          rw [ha] at hl
          cases hd : findA c m.to with
          | none => rw [hd] at hl; cases hl
          | some d =>
            rw [hd] at hl
            simp only [Bool.and_eq_true, beq_iff_eq] at hl
            simp only [hl.1]
theorem run_sum {en : Ent} {c : List Acc} (h : mvalidB en c = true) (day kind : Int) (bs : List Bal) : (runG en.chart en.links day bs).2 = 0 → sumK c (runG en.chart en.links day bs).1 kind = sumK en.chart bs kind := by
  have key : ∀ (m : Nat) (bs : List Bal), bs.length = m → (runG en.chart en.links day bs).2 = 0 → sumK c (runG en.chart en.links day bs).1 kind = sumK en.chart bs kind := by
    intro m
    induction m with
    | zero => intro bs hl _; rw [List.eq_nil_of_length_eq_zero hl]; rfl
    | succ m ih =>
      intro bs hl he
      have hne : bs ≠ [] := by intro e; subst e; simp at hl
      obtain ⟨xs, x, rfl⟩ : ∃ xs x, bs = xs ++ [x] := ⟨_, _, (List.dropLast_concat_getLast hne).symm⟩
      rw [List.length_append, List.length_singleton] at hl
      rw [runG_snoc] at he ⊢
      unfold stepG at he ⊢
      split at he
      · rename_i h1; exact absurd he h1
      · rename_i h1
        rw [if_neg h1]
        split at he
        · rename_i h2; exact absurd he h2
        · rename_i h2
          rw [if_neg h2, sumK_put, sumK_snoc, ih xs (by omega) (by simpa using h1), at_kind h (by simpa using h2)]
  exact key _ bs rfl
theorem move_sum {en : Ent} {c : List Acc} (h : mvalidB en c = true) (day kind : Int) (bs : List Bal) (he : (moveS en.chart en.links bs day).2 = 0) : sumK c (moveS en.chart en.links bs day).1 kind = sumK en.chart bs kind := by
  unfold moveS at he ⊢
  split at he
  · cases he
  · rename_i h1
    rw [if_neg h1]
    split at he
    · rename_i h2; exact absurd he h2
    · rename_i h2
      rw [if_neg h2]
      unfold lastS at he ⊢
      split at he
      · rename_i h3
        rw [if_pos h3, sumK_filter]
        exact run_sum h day kind bs (by simpa using h2)
      · cases he
theorem move_err {c : List Acc} {l : List Lnk} {bs : List Bal} {day : Int} (he : (moveS c l bs day).2 ≠ 0) : (moveS c l bs day).1 = [] := by
  unfold moveS at he ⊢
  split at he
  · rename_i h1; rw [if_pos h1]
  · rename_i h1
    rw [if_neg h1]
    split at he
    · rename_i h2; rw [if_pos h2]
    · rename_i h2
      rw [if_neg h2]
      unfold lastS at he ⊢
      split at he
      · exact absurd rfl he
      · rename_i h3; rw [if_neg h3]
theorem move_ok {c : List Acc} {l : List Lnk} {bs : List Bal} {day : Int} (he : (moveS c l bs day).2 = 0) : (∀ x ∈ bs, amtB x.amount = true) ∧ (∀ x ∈ (moveS c l bs day).1, amtB x.amount = true) := by
  unfold moveS at he ⊢
  split at he
  · cases he
  · rename_i h1
    refine ⟨ascB_amt (by simpa using h1), ?_⟩
    rw [if_neg h1]
    split at he
    · rename_i h2; exact absurd he h2
    · rename_i h2
      rw [if_neg h2]
      unfold lastS at he ⊢
      split at he
      · rename_i h3
        rw [if_pos h3]
        intro x hx
        exact List.all_eq_true.1 h3 x (List.mem_filter.1 hx).1
      · cases he
theorem move_len (c : List Acc) (l : List Lnk) (bs : List Bal) (day : Int) : (moveS c l bs day).1.length ≤ bs.length := by
  have h0 : ∀ (bs : List Bal) (st : List Bal × Int), (bs.foldl (stepG c l day) st).1.length ≤ st.1.length + bs.length := by
    intro bs
    induction bs with
    | nil => intro st; simp
    | cons b bs ih =>
      intro st
      rw [List.foldl_cons]
      refine Nat.le_trans (ih _) ?_
      have : (stepG c l day st b).1.length ≤ st.1.length + 1 := by
        unfold stepG
        split
        · omega
        · split
          · simp
          · exact putS_len _ _ _
      simp only [List.length_cons]
      omega
  have h1 : (runG c l day bs).1.length ≤ bs.length := by
    have := h0 bs ([], 0)
    simpa [runG] using this
  unfold moveS
  split
  · simp
  · split
    · simp
    · unfold lastS
      split
      · exact Nat.le_trans (List.length_filter_le _ _) h1
      · simp
end Go.Proofs.Ytppjjmjdiccloab
