/- The order of valid holdings, and the columns of their matrix: the plain part. -/
import Derived.Test.YtkpdimbblcmnaaaHolMatP
namespace Go.Proofs.Ytkpdimbblcmnaaa
set_option linter.unusedSimpArgs false
set_option linter.unusedVariables false

/-- Lists with the same elements, of which each date comes up once, have one current element. -/
theorem curH_same {d : Int} {l m : List Hol} (hm : ∀ x, x ∈ l ↔ x ∈ m) (hu : ∀ x ∈ l, ∀ y ∈ l, x.date = y.date → x = y) : curH d l = curH d m := by
  cases h1 : curH d l with
  | none =>
    cases h2 : curH d m with
    | none => rfl
    | some y =>
      have := curH_none h1 y ((hm y).2 (curH_mem h2))
      exact absurd (curH_max h2).1 this
  | some x =>
    have hx := curH_max h1
    cases h2 : curH d m with
    | none => exact absurd hx.1 (curH_none h2 x ((hm x).1 (curH_mem h1)))
    | some y =>
      have hy := curH_max h2
      have a1 := hx.2 y ((hm y).2 (curH_mem h2)) hy.1
      have a2 := hy.2 x ((hm x).1 (curH_mem h1)) hx.1
      rw [hu x (curH_mem h1) y ((hm y).2 (curH_mem h2)) (by omega)]
theorem atH_same {l m : List Hol} (hm : ∀ x, x ∈ l ↔ x ∈ m) (hu : ∀ x ∈ l, ∀ y ∈ l, sameH x y = true → x = y) (h e d : Int) : atH l h e d = atH m h e d := by
  unfold atH ofPair
  rw [curH_same]
  · intro x; simp only [List.mem_filter, hm]
  · intro x hx y hy hd
    obtain ⟨hx1, hx2⟩ := List.mem_filter.1 hx
    obtain ⟨hy1, hy2⟩ := List.mem_filter.1 hy
    simp only [pairB, Bool.and_eq_true, beq_iff_eq] at hx2 hy2
    exact hu x hx1 y hy1 (by simp [sameH, hx2.1, hx2.2, hy2.1, hy2.2, hd])
theorem sum_perm {a b : List Int} (h : a.Perm b) : a.sum = b.sum := by
  induction h with
  | nil => rfl
  | cons x _ ih => simp [ih]
  | swap x y l => simp only [List.sum_cons]; omega
  | trans _ _ ih1 ih2 => exact ih1.trans ih2
theorem nodup_perm {a b : List Int} (ha : a.Nodup) (hb : b.Nodup) (h : ∀ x, x ∈ a ↔ x ∈ b) : a.Perm b := by
  induction a generalizing b with
  | nil =>
    have : b = [] := List.eq_nil_iff_forall_not_mem.2 fun x hx => by simpa using (h x).2 hx
    subst this; exact List.Perm.nil
  | cons x a ih =>
    have hx := (h x).1 (by simp)
    obtain ⟨s, t, rfl⟩ := List.append_of_mem hx
    have hp : (s ++ x :: t).Perm (x :: (s ++ t)) := List.perm_middle
    have hn := hp.nodup_iff.1 hb
    have hn2 := List.nodup_cons.1 hn
    have ha2 := List.nodup_cons.1 ha
    refine List.Perm.trans (List.Perm.cons x (ih ha2.2 hn2.2 fun y => ?_)) hp.symm
    have h1 := h y
    have h2 := hp.mem_iff (a := y)
    rw [h2] at h1
    simp only [List.mem_cons] at h1
    constructor
    · intro hy
      rcases h1.1 (.inr hy) with rfl | h3
      · exact absurd hy ha2.1
      · exact h3
    · intro hy
      rcases h1.2 (.inr hy) with rfl | h3
      · exact absurd hy hn2.1
      · exact h3
theorem totH_same {l m : List Hol} (hm : ∀ x, x ∈ l ↔ x ∈ m) (hu : ∀ x ∈ l, ∀ y ∈ l, sameH x y = true → x = y) (e d : Int) : totH l e d = totH m e d := by
  unfold totH sumAt
  have h1 : (firstsH m).map (fun h => atH m h e d) = (firstsH m).map fun h => atH l h e d := List.map_congr_left fun h _ => (atH_same hm hu h e d).symm
  rw [h1]
  refine sum_perm (List.Perm.map _ (nodup_perm (firstsH_nodup l) (firstsH_nodup m) fun h => ?_))
  rw [firstsH_mem, firstsH_mem]
  exact ⟨fun ⟨x, hx, e⟩ => ⟨x, (hm x).1 hx, e⟩, fun ⟨x, hx, e⟩ => ⟨x, (hm x).2 hx, e⟩⟩
/-- What valid says. -/
theorem hvalidB_iff {n : Int} {l : List Hol} : hvalidB n l = true ↔ (1 ≤ n ∧ n ≤ 12 ∧ l.length ≤ 200) ∧ (∀ x ∈ l, properB n x = true) ∧ (l.Pairwise fun x y => sameH x y = false) ∧ sumsB l = true := by
  constructor
  · intro h
    have h0 := h
    simp only [hvalidB, Bool.and_eq_true, decide_eq_true_eq] at h
    obtain ⟨⟨⟨⟨h1, h2⟩, h3⟩, h4⟩, h5⟩ := h
    have hk : ∀ k < l.length, okH n l k = true := fun k hk => List.all_eq_true.1 h4 k (List.mem_range.2 hk)
    exact ⟨⟨h1, h2, h3⟩, okH_proper hk, List.pairwise_iff_getElem.2 fun i j hi hj hij => hvalidB_ne h0 hj hij, h5⟩
  · rintro ⟨⟨h1, h2, h3⟩, h4, h5, h6⟩
    rw [hvalidB_rest h1 h2 h3]
    · exact h6
    · intro k hk
      rw [okH_at hk, h4 _ (List.getElem_mem hk), Bool.true_and, Bool.not_eq_true', List.any_eq_false]
      intro a ha
      obtain ⟨i, hi, rfl⟩ := List.getElem_of_mem ha
      simp only [List.length_take] at hi
      rw [List.getElem_take]
      have := (List.pairwise_iff_getElem.1 h5) i k (by omega) hk (by omega)
      simp [this]
theorem sameH_comm (x y : Hol) : sameH x y = sameH y x := by
  simp only [sameH]
  rw [Bool.eq_iff_iff]
  simp only [Bool.and_eq_true, beq_iff_eq]
  omega
theorem hvalidB_rev {n : Int} {l : List Hol} (h : hvalidB n l = true) : hvalidB n l.reverse = true := by
  have hu : ∀ x ∈ l, ∀ y ∈ l, sameH x y = true → x = y := fun x hx y hy hs => valid_uniq h hx hy hs
  have hm : ∀ x, x ∈ l ↔ x ∈ l.reverse := fun x => by simp
  obtain ⟨h1, h2, h3, h4⟩ := hvalidB_iff.1 h
  refine hvalidB_iff.2 ⟨by simpa using h1, fun x hx => h2 x (by simpa using hx), ?_, sums_good fun x hx => ?_⟩
  · rw [List.pairwise_reverse]
    exact h3.imp fun {a b} hab => by rw [sameH_comm]; exact hab
  · rw [← totH_same hm hu]
    exact sums_all h4 _ _
theorem totH_rev {n : Int} {l : List Hol} (h : hvalidB n l = true) (e d : Int) : totH l.reverse e d = totH l e d :=
  (totH_same (fun x => by simp) (fun x hx y hy hs => valid_uniq h hx hy hs) e d).symm
theorem matR_rev {n : Int} {l : List Hol} (h : hvalidB n l = true) (day : Int) : matR n l.reverse day = matR n l day := by
  have ha : ∀ x y, atH l.reverse x y day = atH l x y day := fun x y => (atH_same (fun x => by simp) (fun x hx y hy hs => valid_uniq h hx hy hs) x y day).symm
  cases hd : dateB day with
  | false => rw [matR_2 h hd, matR_2 (hvalidB_rev h) hd]
  | true =>
    rw [matR_3 h hd, matR_3 (hvalidB_rev h) hd]
    unfold matH rowH
    simp only [ha]
/-- The first k shares of a column. -/
def colH (l : List Hol) (k : Nat) (e d : Int) : Int := ((List.range k).map fun (i : Nat) => atH l (i : Int) e d).sum
theorem colH_snoc (l : List Hol) (k : Nat) (e d : Int) : colH l (k + 1) e d = colH l k e d + atH l (k : Int) e d := by simp [colH, List.range_succ, List.sum_append]
theorem atH_none {l : List Hol} {h e d : Int} (hn : ∀ x ∈ l, ¬ (x.holder = h ∧ x.entity = e)) : atH l h e d = 0 := by
  unfold atH ofPair
  have : l.filter (pairB h e) = [] := by
    rw [List.filter_eq_nil_iff]
    intro x hx
    have := hn x hx
    simp only [pairB, Bool.and_eq_true, beq_iff_eq]
    exact this
  rw [this]; rfl
theorem atH_range {n : Int} {l : List Hol} (h : hvalidB n l = true) (x e d : Int) : 0 ≤ atH l x e d ∧ atH l x e d ≤ 10000 := by
  have hp := (hvalidB_iff.1 h).2.1
  unfold atH
  cases hc : curH d (ofPair l x e) with
  | none => exact ⟨Int.le_refl _, by decide⟩
  | some m =>
    have := properB_true (hp m (List.mem_filter.1 (curH_mem hc)).1)
    exact ⟨this.2.2.2.2.2.2.1, this.2.2.2.2.2.2.2⟩
theorem atH_diag {n : Int} {l : List Hol} (h : hvalidB n l = true) (k d : Int) : atH l k k d = 0 :=
  atH_none fun x hx hh => by
    have := properB_true ((hvalidB_iff.1 h).2.1 x hx)
    omega
theorem sum_zero_filter (f : Int → Int) (p : Int → Bool) (l : List Int) (h : ∀ x ∈ l, p x = false → f x = 0) : (l.map f).sum = ((l.filter p).map f).sum := by
  induction l with
  | nil => rfl
  | cons a l ih =>
    have ih := ih fun x hx => h x (by simp [hx])
    rw [List.filter_cons]
    cases hp : p a with
    | true => simp [ih]
    | false => simp [ih, h a (by simp) hp]
theorem range_cast_nodup (m : Nat) : ((List.range m).map fun (i : Nat) => (i : Int)).Nodup := by
  have := List.nodup_range (n := m)
  exact List.Pairwise.map _ (fun a b hab h => hab (Int.ofNat.inj h)) this
theorem colH_tot {m : Nat} {l : List Hol} (h : hvalidB (m : Int) l = true) (e d : Int) : colH l m e d = totH l e d := by
  unfold colH totH sumAt
  have e1 : (List.range m).map (fun (i : Nat) => atH l (i : Int) e d) = ((List.range m).map fun (i : Nat) => (i : Int)).map fun i => atH l i e d := by rw [List.map_map]; rfl
  rw [e1, sum_zero_filter (fun i => atH l i e d) (fun i => (firstsH l).contains i)]
  · refine sum_perm (List.Perm.map _ (nodup_perm ((range_cast_nodup m).filter _) (firstsH_nodup l) fun x => ?_))
    rw [List.mem_filter]
    constructor
    · intro hx; simpa using hx.2
    · intro hx
      refine ⟨?_, by simpa using hx⟩
      obtain ⟨y, hy, rfl⟩ := (firstsH_mem l x).1 hx
      have := properB_true ((hvalidB_iff.1 h).2.1 y hy)
      exact List.mem_map.2 ⟨y.holder.toNat, List.mem_range.2 (by omega), by omega⟩
  · intro x _ hx
    refine atH_none fun y hy hh => ?_
    have : x ∈ firstsH l := (firstsH_mem l x).2 ⟨y, hy, hh.1⟩
    simp [this] at hx
theorem colH_bd {n : Int} {l : List Hol} (h : hvalidB n l = true) (k : Nat) (e d : Int) : 0 ≤ colH l k e d ∧ colH l k e d ≤ 10000 * k := by
  induction k with
  | zero => simp [colH]
  | succ k ih =>
    rw [colH_snoc]
    have := atH_range h (k : Int) e d
    omega
end Go.Proofs.Ytkpdimbblcmnaaa
