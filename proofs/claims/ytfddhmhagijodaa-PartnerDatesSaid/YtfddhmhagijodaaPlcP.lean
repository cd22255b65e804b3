/- The order of places of lines, plain: ranks, uniqueness of the sorted list, insertion. No program is walked. -/
import Derived.Test.YtfddhmhagijodaaPlcW
import Derived.Test.YtfddhmhagijodaaStK
namespace Go.Proofs.Ytfddhmhagijodaa
set_option linter.unusedSimpArgs false
set_option linter.unusedVariables false

theorem cmpI_zero {x y : Int} : cmpI x y = 0 ↔ x = y := by unfold cmpI; split <;> (try split) <;> omega
theorem cmpI_neg {x y : Int} : cmpI x y < 0 ↔ x < y := by unfold cmpI; split <;> (try split) <;> omega
/-- a comes before b. -/
def PLt (a b : Plc) : Prop := cmpP a b < 0
theorem plt_iff (a b : Plc) : PLt a b ↔ a.date < b.date ∨ a.date = b.date ∧ (a.eid < b.eid ∨ a.eid = b.eid ∧ (a.at_ < b.at_ ∨ a.at_ = b.at_ ∧ a.idx < b.idx)) := by
  unfold PLt cmpP
  simp only [orI, cmpI_zero]
  split
  · split
    · split
      · split
        · omega
        · rw [cmpI_neg]; omega
      · rw [cmpI_neg]; omega
    · rw [cmpI_neg]; omega
  · rw [cmpI_neg]; omega
theorem cmpP_three (a b : Plc) : cmpP a b = -1 ∨ cmpP a b = 0 ∨ cmpP a b = 1 := by
  have h : ∀ x y, cmpI x y = -1 ∨ cmpI x y = 0 ∨ cmpI x y = 1 := fun x y => by unfold cmpI; split <;> (try split) <;> simp
  unfold cmpP
  simp only [orI]
  split
  · split
    · split
      · split
        · simp
        · exact h _ _
      · exact h _ _
    · exact h _ _
  · exact h _ _
theorem cmpP_zero {a b : Plc} : cmpP a b = 0 ↔ a.date = b.date ∧ a.eid = b.eid ∧ a.at_ = b.at_ ∧ a.idx = b.idx := by
  unfold cmpP
  simp only [orI, cmpI_zero]
  split
  · split
    · split
      · split
        · simp_all
        · rw [cmpI_zero]; simp_all
      · rw [cmpI_zero]; simp_all
    · rw [cmpI_zero]; simp_all
  · rw [cmpI_zero]; simp_all
theorem plt_irr (a : Plc) : ¬ PLt a a := by rw [plt_iff]; omega
theorem plt_trans (a b c : Plc) (h : PLt a b) (k : PLt b c) : PLt a c := by rw [plt_iff] at *; omega
theorem plt_total {a b : Plc} (h : cmpP a b ≠ 0) : PLt a b ∨ PLt b a := by
  rw [Ne, cmpP_zero] at h; rw [plt_iff, plt_iff]; omega
theorem sorted_ext {α : Type} (lt : α → α → Prop) (irr : ∀ x, ¬ lt x x) (tr : ∀ x y z, lt x y → lt y z → lt x z) :
    ∀ L M : List α, L.Pairwise lt → M.Pairwise lt → (∀ x, x ∈ L ↔ x ∈ M) → L = M := by
  intro L
  induction L with
  | nil =>
    intro M _ _ h
    cases M with
    | nil => rfl
    | cons b M => exact absurd ((h b).2 (List.mem_cons_self ..)) (List.not_mem_nil)
  | cons a L ih =>
    intro M hL hM h
    cases M with
    | nil => exact absurd ((h a).1 (List.mem_cons_self ..)) (List.not_mem_nil)
    | cons b M =>
      rw [List.pairwise_cons] at hL hM
      have hab : a = b := by
        rcases List.mem_cons.1 ((h a).1 (List.mem_cons_self ..)) with e | e
        · exact e
        · rcases List.mem_cons.1 ((h b).2 (List.mem_cons_self ..)) with e2 | e2
          · exact e2.symm
          · exact absurd (tr _ _ _ (hL.1 b e2) (hM.1 a e)) (irr a)
      subst hab
      have : L = M := ih M hL.2 hM.2 (fun x => by
        constructor
        · intro hx
          rcases List.mem_cons.1 ((h x).1 (List.mem_cons_of_mem _ hx)) with e | e
          · subst e; exact absurd (hL.1 x hx) (irr x)
          · exact e
        · intro hx
          rcases List.mem_cons.1 ((h x).2 (List.mem_cons_of_mem _ hx)) with e | e
          · subst e; exact absurd (hM.1 x hx) (irr x)
          · exact e)
      rw [this]

/-- How many of a list come before a. -/
def rk (L : List Plc) (a : Plc) : Nat := L.countP (fun b => decide (cmpP b a < 0))
theorem countP_lt {α : Type} (p q : α → Bool) (L : List α) (hpq : ∀ x, p x = true → q x = true) (a : α) (ha : a ∈ L) (h1 : q a = true) (h2 : p a = false) : L.countP p < L.countP q := by
  induction L with
  | nil => exact absurd ha List.not_mem_nil
  | cons x L ih =>
    have hle : ∀ M : List α, M.countP p ≤ M.countP q := fun M => List.countP_mono_left (fun x _ h => hpq x h)
    rw [List.countP_cons, List.countP_cons]
    rcases List.mem_cons.1 ha with e | e
    · subst e
      have := hle L
      simp [h1, h2]; omega
    · have := ih e
      have hx := hpq x
      cases hp : p x
      · simp; omega
      · simp [hx hp]; omega
theorem rk_lt {L : List Plc} {a b : Plc} (ha : a ∈ L) (h : PLt a b) : rk L a < rk L b :=
  countP_lt _ _ L (fun x hx => by simp at hx ⊢; exact plt_trans x a b hx h) a ha (by simp; exact h) (by simp; have := plt_irr a; unfold PLt at this; omega)
theorem rk_cmp {L : List Plc} {a b : Plc} (ha : a ∈ L) (hb : b ∈ L) : cmpP a b = cmpI (rk L a) (rk L b) := by
  have key : ∀ x y : Plc, cmpP x y = 0 → rk L x = rk L y := fun x y h => by
    rw [cmpP_zero] at h
    unfold rk
    congr 1
    funext z
    have e : (cmpP z x < 0) = (cmpP z y < 0) := by
      have p1 := plt_iff z x; have p2 := plt_iff z y
      unfold PLt at p1 p2
      rw [p1, p2, h.1, h.2.1, h.2.2.1, h.2.2.2]
    simp only [e]
  have neg : ∀ {x y : Plc}, PLt x y → cmpP x y = -1 := fun {x y} h => by
    rcases cmpP_three x y with e | e | e
    · exact e
    · unfold PLt at h; omega
    · unfold PLt at h; omega
  rcases cmpP_three a b with e | e | e
  · rw [e]
    have := rk_lt ha (show PLt a b by unfold PLt; omega)
    unfold cmpI; rw [if_pos (by omega)]
  · rw [e]
    have := key _ _ e
    rw [this]; unfold cmpI; simp
  · rw [e]
    have hp : PLt b a := (plt_total (by omega : cmpP a b ≠ 0)).resolve_left (by unfold PLt; omega)
    have := rk_lt hb hp
    unfold cmpI; rw [if_neg (by omega), if_pos (by omega)]

/-- A place set among sorted ones. -/
def insP (p : Plc) : List Plc → List Plc
  | [] => [p]
  | q :: t => if cmpP q p < 0 then q :: insP p t else p :: q :: t
theorem mem_insP (p x : Plc) (L : List Plc) : x ∈ insP p L ↔ x = p ∨ x ∈ L := by
  induction L with
  | nil => simp [insP]
  | cons q t ih =>
    unfold insP
    split
    · rw [List.mem_cons, ih, List.mem_cons]
      constructor
      · rintro (h | h | h)
        · exact .inr (.inl h)
        · exact .inl h
        · exact .inr (.inr h)
      · rintro (h | h | h)
        · exact .inr (.inl h)
        · exact .inl h
        · exact .inr (.inr h)
    · rw [List.mem_cons]
theorem insP_sorted (p : Plc) (L : List Plc) (h : L.Pairwise PLt) (hd : ∀ q ∈ L, cmpP q p ≠ 0) : (insP p L).Pairwise PLt := by
  induction L with
  | nil => simp [insP]
  | cons q t ih =>
    rw [List.pairwise_cons] at h
    unfold insP
    split
    · rename_i hq
      rw [List.pairwise_cons]
      refine ⟨fun x hx => ?_, ih h.2 (fun y hy => hd y (List.mem_cons_of_mem _ hy))⟩
      rcases (mem_insP p x t).1 hx with e | e
      · subst e; exact hq
      · exact h.1 x e
    · rename_i hq
      have hp : PLt p q := (plt_total (hd q (List.mem_cons_self ..))).resolve_left hq
      rw [List.pairwise_cons, List.pairwise_cons]
      refine ⟨fun x hx => ?_, h⟩
      rcases List.mem_cons.1 hx with e | e
      · subst e; exact hp
      · exact plt_trans _ _ _ hp (h.1 x e)
/-- The places in their order. -/
def sortPl (L : List Plc) : List Plc := L.foldl (fun out p => insP p out) []
theorem sortPl_aux (L : List Plc) : ∀ out : List Plc, out.Pairwise PLt → L.Pairwise (fun a b => cmpP a b ≠ 0) → (∀ a ∈ out, ∀ b ∈ L, cmpP a b ≠ 0) →
    (L.foldl (fun out p => insP p out) out).Pairwise PLt ∧ ∀ x, x ∈ L.foldl (fun out p => insP p out) out ↔ x ∈ out ∨ x ∈ L := by
  induction L with
  | nil => intro out h _ _; exact ⟨h, fun x => by simp⟩
  | cons p L ih =>
    intro out h hp hx
    rw [List.pairwise_cons] at hp
    rw [List.foldl_cons]
    obtain ⟨a1, a2⟩ := ih (insP p out) (insP_sorted p out h (fun q hq => hx q hq p (List.mem_cons_self ..))) hp.2 (fun a ha b hb => by
      rcases (mem_insP p a out).1 ha with e | e
      · subst e; exact hp.1 b hb
      · exact hx a e b (List.mem_cons_of_mem _ hb))
    refine ⟨a1, fun x => ?_⟩
    rw [a2, mem_insP, List.mem_cons]
    constructor
    · rintro ((h | h) | h)
      · exact .inr (.inl h)
      · exact .inl h
      · exact .inr (.inr h)
    · rintro (h | h | h)
      · exact .inl (.inr h)
      · exact .inl (.inl h)
      · exact .inr h
theorem sortPl_sorted {L : List Plc} (h : L.Pairwise (fun a b => cmpP a b ≠ 0)) : (sortPl L).Pairwise PLt :=
  (sortPl_aux L [] List.Pairwise.nil h (fun _ ha => absurd ha List.not_mem_nil)).1
theorem mem_sortPl {L : List Plc} (h : L.Pairwise (fun a b => cmpP a b ≠ 0)) (x : Plc) : x ∈ sortPl L ↔ x ∈ L := by
  rw [sortPl, (sortPl_aux L [] List.Pairwise.nil h (fun _ ha => absurd ha List.not_mem_nil)).2 x]; simp
/-- A sorted list of the same members is the sorted list. -/
theorem sortPl_unique {L M : List Plc} (h : L.Pairwise (fun a b => cmpP a b ≠ 0)) (hM : M.Pairwise PLt) (hm : ∀ x, x ∈ M ↔ x ∈ L) : M = sortPl L :=
  sorted_ext PLt plt_irr plt_trans _ _ hM (sortPl_sorted h) (fun x => by rw [hm, mem_sortPl h])
/-- The sorted list of the members that pass is what passes of the sorted list. -/
theorem sortPl_filter {L : List Plc} (h : L.Pairwise (fun a b => cmpP a b ≠ 0)) (p : Plc → Bool) : sortPl (L.filter p) = (sortPl L).filter p :=
  (sortPl_unique (h.filter p) ((sortPl_sorted h).filter p) (fun x => by rw [List.mem_filter, List.mem_filter, mem_sortPl h])).symm

/-- What the stable sort leaves is the sorted list. -/
theorem sort_gives {L : List Plc} (h : L.Pairwise (fun a b => cmpP a b ≠ 0)) (pl : Int → Plc) (hpl : ∀ i (hi : i < L.length), pl (i : Nat) = L[i]) (d0 d : Nat → Int) (h0 : ∀ i, i < L.length → d0 i = i)
    (hs : Srt (fun i => -(rk L (pl i) : Int)) d 0 L.length) (hd : Same 0 L.length d0 d) : (List.range L.length).map (fun i => pl (d i)) = sortPl L := by
  have hb : ∀ i, i < L.length → ∃ j, ∃ hj : j < L.length, d i = (j : Nat) ∧ pl (d i) = L[j] := fun i hi => by
    obtain ⟨j, _, h2, e⟩ := hd.from_ i (Nat.zero_le _) hi
    rw [h0 j h2] at e
    exact ⟨j, h2, e, by rw [e, hpl j h2]⟩
  refine sortPl_unique h ?_ ?_
  · rw [List.pairwise_map]
    refine List.pairwise_iff_getElem.2 fun i j hi hj hij => ?_
    simp only [List.length_range] at hi hj
    simp only [List.getElem_range]
    obtain ⟨x, hx, ex, px⟩ := hb i hi
    obtain ⟨y, hy, ey, py⟩ := hb j hj
    have hl := hs i j (Nat.zero_le _) hij hj
    have mx : pl (d i) ∈ L := by rw [px]; exact List.getElem_mem ..
    have my : pl (d j) ∈ L := by rw [py]; exact List.getElem_mem ..
    have hc := rk_cmp mx my
    rcases hl with hl | ⟨hl, hlt⟩
    · unfold PLt; rw [hc, cmpI_neg]; simp only at hl; omega
    · exfalso
      have hz : cmpP (pl (d i)) (pl (d j)) = 0 := by rw [hc, cmpI_zero]; simp only at hl; omega
      rw [px, py] at hz
      rw [ex, ey] at hlt
      exact (List.pairwise_iff_getElem.1 h) x y hx hy (by omega) hz
  · intro x
    rw [List.mem_map]
    constructor
    · rintro ⟨i, hi, rfl⟩
      rw [List.mem_range] at hi
      obtain ⟨j, hj, _, e⟩ := hb i hi
      rw [e]; exact List.getElem_mem ..
    · intro hx
      obtain ⟨j, hj, rfl⟩ := List.getElem_of_mem hx
      obtain ⟨i, _, h2, e⟩ := hd.onto j (Nat.zero_le _) hj
      refine ⟨i, List.mem_range.2 h2, ?_⟩
      rw [e, h0 j hj, hpl j hj]
/-- The comparison by ranks. -/
theorem cfp_ranks (L : List Plc) (pl : Int → Plc) (hpl : ∀ i (hi : i < L.length), pl (i : Nat) = L[i]) : CfP pl (fun i => -(rk L (pl i) : Int)) L.length := by
  intro a b ha ha2 hb hb2
  obtain ⟨i, rfl⟩ := Int.eq_ofNat_of_zero_le ha
  obtain ⟨j, rfl⟩ := Int.eq_ofNat_of_zero_le hb
  have hi : i < L.length := by omega
  have hj : j < L.length := by omega
  have hc := rk_cmp (L := L) (a := L[i]) (b := L[j]) (List.getElem_mem ..) (List.getElem_mem ..)
  show cmpP (pl (i : Nat)) (pl (j : Nat)) = cmpI (-(rk L (pl (j : Nat)) : Int)) (-(rk L (pl (i : Nat)) : Int))
  rw [hpl i hi, hpl j hj, hc]
  unfold cmpI
  split <;> split <;> (try split) <;> (try split) <;> omega
end Go.Proofs.Ytfddhmhagijodaa
