/- The order of places of lines, plain: ranks, uniqueness of the sorted list, insertion. No program is walked; Entries of journals with their lines in memory, and the list of the places of their lines; Sums of lines by accounts, plain: the list of sums does not depend on the order of the lines. No program is walked. -/
import Derived.Test.YtfddhmhagijodaaPlcW
import Derived.Test.YtfddhmhagijodaaStK
namespace Go.Proofs.Ytfddhmhagijodaa
set_option linter.unusedSimpArgs false
set_option linter.unusedVariables false

theorem cmpI_zero {x y : Int} : cmpI x y = 0 ↔ x = y := by unfold cmpI; split <;> (try split) <;> omega
theorem cmpI_neg {x y : Int} : cmpI x y < 0 ↔ x < y := by unfold cmpI; split <;> (try split) <;> omega
/-- a comes before b. -/
def PLt (a b : Plc) : Prop := cmpP a b < 0
theorem plt_iff (a b : Plc) : PLt a b ↔ a.date < b.date ∨ a.date = b.date ∧ (a.eid < b.eid ∨ a.eid = b.eid ∧ (a.at_ < b.at_ ∨ a.at_ = b.at_ ∧ a.idx < b.idx)) := by
  unfold PLt cmpP
  simp only [orI, cmpI_zero]
  split
  · split
    · split
      · split
        · omega
        · rw [cmpI_neg]; omega
      · rw [cmpI_neg]; omega
    · rw [cmpI_neg]; omega
  · rw [cmpI_neg]; omega
theorem cmpP_three (a b : Plc) : cmpP a b = -1 ∨ cmpP a b = 0 ∨ cmpP a b = 1 := by
  have h : ∀ x y, cmpI x y = -1 ∨ cmpI x y = 0 ∨ cmpI x y = 1 := fun x y => by unfold cmpI; split <;> (try split) <;> simp
  unfold cmpP
  simp only [orI]
  split
  · split
    · split
      · split
        · simp
        · exact h _ _
      · exact h _ _
    · exact h _ _
  · exact h _ _
theorem cmpP_zero {a b : Plc} : cmpP a b = 0 ↔ a.date = b.date ∧ a.eid = b.eid ∧ a.at_ = b.at_ ∧ a.idx = b.idx := by
  unfold cmpP
  simp only [orI, cmpI_zero]
  split
  · split
    · split
      · split
        · simp_all
        · rw [cmpI_zero]; simp_all
      · rw [cmpI_zero]; simp_all
    · rw [cmpI_zero]; simp_all
  · rw [cmpI_zero]; simp_all
theorem plt_irr (a : Plc) : ¬ PLt a a := by rw [plt_iff]; omega
theorem plt_trans (a b c : Plc) (h : PLt a b) (k : PLt b c) : PLt a c := by rw [plt_iff] at *; omega
theorem plt_total {a b : Plc} (h : cmpP a b ≠ 0) : PLt a b ∨ PLt b a := by
  rw [Ne, cmpP_zero] at h; rw [plt_iff, plt_iff]; omega
theorem sorted_ext {α : Type} (lt : α → α → Prop) (irr : ∀ x, ¬ lt x x) (tr : ∀ x y z, lt x y → lt y z → lt x z) :
    ∀ L M : List α, L.Pairwise lt → M.Pairwise lt → (∀ x, x ∈ L ↔ x ∈ M) → L = M := by
  intro L
  induction L with
  | nil =>
    intro M _ _ h
    cases M with
    | nil => rfl
    | cons b M => exact absurd ((h b).2 (List.mem_cons_self ..)) (List.not_mem_nil)
  | cons a L ih =>
    intro M hL hM h
    cases M with
    | nil => exact absurd ((h a).1 (List.mem_cons_self ..)) (List.not_mem_nil)
    | cons b M =>
      rw [List.pairwise_cons] at hL hM
      have hab : a = b := by
        rcases List.mem_cons.1 ((h a).1 (List.mem_cons_self ..)) with e | e
        · exact e
        · rcases List.mem_cons.1 ((h b).2 (List.mem_cons_self ..)) with e2 | e2
          · exact e2.symm
          · exact absurd (tr _ _ _ (hL.1 b e2) (hM.1 a e)) (irr a)
      subst hab
      have : L = M := ih M hL.2 hM.2 (fun x => by
        constructor
        · intro hx
          rcases List.mem_cons.1 ((h x).1 (List.mem_cons_of_mem _ hx)) with e | e
          · subst e; exact absurd (hL.1 x hx) (irr x)
          · exact e
        · intro hx
          rcases List.mem_cons.1 ((h x).2 (List.mem_cons_of_mem _ hx)) with e | e
          · subst e; exact absurd (hM.1 x hx) (irr x)
          · exact e)
      rw [this]

/-- How many of a list come before a. -/
def rk (L : List Plc) (a : Plc) : Nat := L.countP (fun b => decide (cmpP b a < 0))
theorem countP_lt {α : Type} (p q : α → Bool) (L : List α) (hpq : ∀ x, p x = true → q x = true) (a : α) (ha : a ∈ L) (h1 : q a = true) (h2 : p a = false) : L.countP p < L.countP q := by
  induction L with
  | nil => exact absurd ha List.not_mem_nil
  | cons x L ih =>
    have hle : ∀ M : List α, M.countP p ≤ M.countP q := fun M => List.countP_mono_left (fun x _ h => hpq x h)
    rw [List.countP_cons, List.countP_cons]
    rcases List.mem_cons.1 ha with e | e
    · subst e
      have := hle L
      simp [h1, h2]; omega
    · have := ih e
      have hx := hpq x
      cases hp : p x
      · simp; omega
      · simp [hx hp]; omega
theorem rk_lt {L : List Plc} {a b : Plc} (ha : a ∈ L) (h : PLt a b) : rk L a < rk L b :=
  countP_lt _ _ L (fun x hx => by simp at hx ⊢; exact plt_trans x a b hx h) a ha (by simp; exact h) (by simp; have := plt_irr a; unfold PLt at this; omega)
theorem rk_cmp {L : List Plc} {a b : Plc} (ha : a ∈ L) (hb : b ∈ L) : cmpP a b = cmpI (rk L a) (rk L b) := by
  have key : ∀ x y : Plc, cmpP x y = 0 → rk L x = rk L y := fun x y h => by
    rw [cmpP_zero] at h
    unfold rk
    congr 1
    funext z
    have e : (cmpP z x < 0) = (cmpP z y < 0) := by
      have p1 := plt_iff z x; have p2 := plt_iff z y
      unfold PLt at p1 p2
      rw [p1, p2, h.1, h.2.1, h.2.2.1, h.2.2.2]
    simp only [e]
  have neg : ∀ {x y : Plc}, PLt x y → cmpP x y = -1 := fun {x y} h => by
    rcases cmpP_three x y with e | e | e
    · exact e
    · unfold PLt at h; omega
    · unfold PLt at h; omega
  rcases cmpP_three a b with e | e | e
  · rw [e]
    have := rk_lt ha (show PLt a b by unfold PLt; omega)
    unfold cmpI; rw [if_pos (by omega)]
  · rw [e]
    have := key _ _ e
    rw [this]; unfold cmpI; simp
  · rw [e]
    have hp : PLt b a := (plt_total (by omega : cmpP a b ≠ 0)).resolve_left (by unfold PLt; omega)
    have := rk_lt hb hp
    unfold cmpI; rw [if_neg (by omega), if_pos (by omega)]

/-- A place set among sorted ones. -/
def insP (p : Plc) : List Plc → List Plc
  | [] => [p]
  | q :: t => if cmpP q p < 0 then q :: insP p t else p :: q :: t
theorem mem_insP (p x : Plc) (L : List Plc) : x ∈ insP p L ↔ x = p ∨ x ∈ L := by
  induction L with
  | nil => simp [insP]
  | cons q t ih =>
    unfold insP
    split
    · rw [List.mem_cons, ih, List.mem_cons]
      constructor
      · rintro (h | h | h)
        · exact .inr (.inl h)
        · exact .inl h
        · exact .inr (.inr h)
      · rintro (h | h | h)
        · exact .inr (.inl h)
        · exact .inl h
        · exact .inr (.inr h)
    · rw [List.mem_cons]
theorem insP_sorted (p : Plc) (L : List Plc) (h : L.Pairwise PLt) (hd : ∀ q ∈ L, cmpP q p ≠ 0) : (insP p L).Pairwise PLt := by
  induction L with
  | nil => simp [insP]
  | cons q t ih =>
    rw [List.pairwise_cons] at h
    unfold insP
    split
    · rename_i hq
      rw [List.pairwise_cons]
      refine ⟨fun x hx => ?_, ih h.2 (fun y hy => hd y (List.mem_cons_of_mem _ hy))⟩
      rcases (mem_insP p x t).1 hx with e | e
      · subst e; exact hq
      · exact h.1 x e
    · rename_i hq
      have hp : PLt p q := (plt_total (hd q (List.mem_cons_self ..))).resolve_left hq
      rw [List.pairwise_cons, List.pairwise_cons]
      refine ⟨fun x hx => ?_, h⟩
      rcases List.mem_cons.1 hx with e | e
      · subst e; exact hp
      · exact plt_trans _ _ _ hp (h.1 x e)
/-- The places in their order. -/
def sortPl (L : List Plc) : List Plc := L.foldl (fun out p => insP p out) []
theorem sortPl_aux (L : List Plc) : ∀ out : List Plc, out.Pairwise PLt → L.Pairwise (fun a b => cmpP a b ≠ 0) → (∀ a ∈ out, ∀ b ∈ L, cmpP a b ≠ 0) →
    (L.foldl (fun out p => insP p out) out).Pairwise PLt ∧ ∀ x, x ∈ L.foldl (fun out p => insP p out) out ↔ x ∈ out ∨ x ∈ L := by
  induction L with
  | nil => intro out h _ _; exact ⟨h, fun x => by simp⟩
  | cons p L ih =>
    intro out h hp hx
    rw [List.pairwise_cons] at hp
    rw [List.foldl_cons]
    obtain ⟨a1, a2⟩ := ih (insP p out) (insP_sorted p out h (fun q hq => hx q hq p (List.mem_cons_self ..))) hp.2 (fun a ha b hb => by
      rcases (mem_insP p a out).1 ha with e | e
      · subst e; exact hp.1 b hb
      · exact hx a e b (List.mem_cons_of_mem _ hb))
    refine ⟨a1, fun x => ?_⟩
    rw [a2, mem_insP, List.mem_cons]
    constructor
    · rintro ((h | h) | h)
      · exact .inr (.inl h)
      · exact .inl h
      · exact .inr (.inr h)
    · rintro (h | h | h)
      · exact .inl (.inr h)
      · exact .inl (.inl h)
      · exact .inr h
theorem sortPl_sorted {L : List Plc} (h : L.Pairwise (fun a b => cmpP a b ≠ 0)) : (sortPl L).Pairwise PLt :=
  (sortPl_aux L [] List.Pairwise.nil h (fun _ ha => absurd ha List.not_mem_nil)).1
theorem mem_sortPl {L : List Plc} (h : L.Pairwise (fun a b => cmpP a b ≠ 0)) (x : Plc) : x ∈ sortPl L ↔ x ∈ L := by
  rw [sortPl, (sortPl_aux L [] List.Pairwise.nil h (fun _ ha => absurd ha List.not_mem_nil)).2 x]; simp
/-- A sorted list of the same members is the sorted list. -/
theorem sortPl_unique {L M : List Plc} (h : L.Pairwise (fun a b => cmpP a b ≠ 0)) (hM : M.Pairwise PLt) (hm : ∀ x, x ∈ M ↔ x ∈ L) : M = sortPl L :=
  sorted_ext PLt plt_irr plt_trans _ _ hM (sortPl_sorted h) (fun x => by rw [hm, mem_sortPl h])
/-- The sorted list of the members that pass is what passes of the sorted list. -/
theorem sortPl_filter {L : List Plc} (h : L.Pairwise (fun a b => cmpP a b ≠ 0)) (p : Plc → Bool) : sortPl (L.filter p) = (sortPl L).filter p :=
  (sortPl_unique (h.filter p) ((sortPl_sorted h).filter p) (fun x => by rw [List.mem_filter, List.mem_filter, mem_sortPl h])).symm

/-- What the stable sort leaves is the sorted list. -/
theorem sort_gives {L : List Plc} (h : L.Pairwise (fun a b => cmpP a b ≠ 0)) (pl : Int → Plc) (hpl : ∀ i (hi : i < L.length), pl (i : Nat) = L[i]) (d0 d : Nat → Int) (h0 : ∀ i, i < L.length → d0 i = i)
    (hs : Srt (fun i => -(rk L (pl i) : Int)) d 0 L.length) (hd : Same 0 L.length d0 d) : (List.range L.length).map (fun i => pl (d i)) = sortPl L := by
  have hb : ∀ i, i < L.length → ∃ j, ∃ hj : j < L.length, d i = (j : Nat) ∧ pl (d i) = L[j] := fun i hi => by
    obtain ⟨j, _, h2, e⟩ := hd.from_ i (Nat.zero_le _) hi
    rw [h0 j h2] at e
    exact ⟨j, h2, e, by rw [e, hpl j h2]⟩
  refine sortPl_unique h ?_ ?_
  · rw [List.pairwise_map]
    refine List.pairwise_iff_getElem.2 fun i j hi hj hij => ?_
    simp only [List.length_range] at hi hj
    simp only [List.getElem_range]
    obtain ⟨x, hx, ex, px⟩ := hb i hi
    obtain ⟨y, hy, ey, py⟩ := hb j hj
    have hl := hs i j (Nat.zero_le _) hij hj
    have mx : pl (d i) ∈ L := by rw [px]; exact List.getElem_mem ..
    have my : pl (d j) ∈ L := by rw [py]; exact List.getElem_mem ..
    have hc := rk_cmp mx my
    rcases hl with hl | ⟨hl, hlt⟩
    · unfold PLt; rw [hc, cmpI_neg]; simp only at hl; omega
    · exfalso
      have hz : cmpP (pl (d i)) (pl (d j)) = 0 := by rw [hc, cmpI_zero]; simp only at hl; omega
      rw [px, py] at hz
      rw [ex, ey] at hlt
      exact (List.pairwise_iff_getElem.1 h) x y hx hy (by omega) hz
  · intro x
    rw [List.mem_map]
    constructor
    · rintro ⟨i, hi, rfl⟩
      rw [List.mem_range] at hi
      obtain ⟨j, hj, _, e⟩ := hb i hi
      rw [e]; exact List.getElem_mem ..
    · intro hx
      obtain ⟨j, hj, rfl⟩ := List.getElem_of_mem hx
      obtain ⟨i, _, h2, e⟩ := hd.onto j (Nat.zero_le _) hj
      refine ⟨i, List.mem_range.2 h2, ?_⟩
      rw [e, h0 j hj, hpl j hj]
/-- The comparison by ranks. -/
theorem cfp_ranks (L : List Plc) (pl : Int → Plc) (hpl : ∀ i (hi : i < L.length), pl (i : Nat) = L[i]) : CfP pl (fun i => -(rk L (pl i) : Int)) L.length := by
  intro a b ha ha2 hb hb2
  obtain ⟨i, rfl⟩ := Int.eq_ofNat_of_zero_le ha
  obtain ⟨j, rfl⟩ := Int.eq_ofNat_of_zero_le hb
  have hi : i < L.length := by omega
  have hj : j < L.length := by omega
  have hc := rk_cmp (L := L) (a := L[i]) (b := L[j]) (List.getElem_mem ..) (List.getElem_mem ..)
  show cmpP (pl (i : Nat)) (pl (j : Nat)) = cmpI (-(rk L (pl (j : Nat)) : Int)) (-(rk L (pl (i : Nat)) : Int))
  rw [hpl i hi, hpl j hj, hc]
  unfold cmpI
  split <;> split <;> (try split) <;> (try split) <;> omega
end Go.Proofs.Ytfddhmhagijodaa

namespace Go.Proofs.Ytfddhmhagijodaa
open Go.RowKit
set_option linter.unusedSimpArgs false
set_option linter.unusedVariables false

structure Ln where
  acc : Int
  amt : Int
  ptn : Int
deriving DecidableEq, Inhabited
def Ln.cells (l : Ln) : List Value := [.int .i64 l.acc, .int .i64 l.amt, .int .i64 l.ptn]
theorem Ln.len (l : Ln) : l.cells.length = 3 := rfl
/-- An entry of a journal. -/
structure Jrn where
  id : Int
  ent : Int
  date : Int
  kind : Int
  of_ : Int
  text : ByteArray
  lines : List Ln
/-- An entry with the place of its lines. -/
structure JV where
  x : Jrn
  a : Option Addr
  c : Nat
  b : Nat
  o : Nat
def JV.cells (e : JV) : List Value := [.int .i64 e.x.id, .int .i64 e.x.ent, .int .i64 e.x.date, .int .i64 e.x.kind, .int .i64 e.x.of_, .string e.x.text, .slice e.a e.x.lines.length e.c]
theorem JV.len (e : JV) : e.cells.length = 7 := rfl
/-- Entries in memory. -/
structure Jrns (w : World) (es : List JV) (ao : Option Addr) (cap b o : Nat) : Prop where
  row : Recs w 7 JV.cells ao es cap b o
  lines : ∀ e ∈ es, Recs w 3 Ln.cells e.a e.x.lines e.c e.b e.o
theorem Jrns.keeps {w w' : World} {es : List JV} {ao : Option Addr} {cap b o : Nat} (h : Jrns w es ao cap b o) (k : Keeps w w') : Jrns w' es ao cap b o :=
  ⟨h.row.keeps k, fun e he => (h.lines e he).keeps k⟩

/-- The places of the lines from the k-th on of the i-th entry. -/
def lnsAt (x : Jrn) (i : Nat) : Nat → List Ln → List Plc
  | _, [] => []
  | k, l :: t => ⟨x.id, k, x.date, i, x.ent, l.acc, l.amt, l.ptn⟩ :: lnsAt x i (k + 1) t
theorem lnsAt_snoc (x : Jrn) (i : Nat) (l : Ln) : ∀ (t : List Ln) (k : Nat), lnsAt x i k (t ++ [l]) = lnsAt x i k t ++ [⟨x.id, (k + t.length : Nat), x.date, i, x.ent, l.acc, l.amt, l.ptn⟩]
  | [], k => by simp [lnsAt]
  | a :: t, k => by
    rw [List.cons_append, lnsAt, lnsAt_snoc x i l t (k + 1), lnsAt, List.cons_append, List.length_cons]
    have : k + 1 + t.length = k + (t.length + 1) := by omega
    rw [this]
theorem lnsAt_length (x : Jrn) (i : Nat) : ∀ (t : List Ln) (k : Nat), (lnsAt x i k t).length = t.length
  | [], k => rfl
  | a :: t, k => by rw [lnsAt, List.length_cons, lnsAt_length x i t (k + 1), List.length_cons]
theorem lnsAt_mem (x : Jrn) (i : Nat) : ∀ (t : List Ln) (k : Nat) (p : Plc), p ∈ lnsAt x i k t → p.at_ = i ∧ (k : Int) ≤ p.idx
  | [], k, p, h => absurd h List.not_mem_nil
  | a :: t, k, p, h => by
    rw [lnsAt] at h
    rcases List.mem_cons.1 h with rfl | h
    · exact ⟨rfl, Int.le_refl _⟩
    · have := lnsAt_mem x i t (k + 1) p h
      exact ⟨this.1, by omega⟩
theorem lnsAt_apart (x : Jrn) (i : Nat) : ∀ (t : List Ln) (k : Nat), (lnsAt x i k t).Pairwise (fun a b => cmpP a b ≠ 0)
  | [], k => List.Pairwise.nil
  | a :: t, k => by
    rw [lnsAt, List.pairwise_cons]
    refine ⟨fun p hp => ?_, lnsAt_apart x i t (k + 1)⟩
    have := lnsAt_mem x i t (k + 1) p hp
    rw [Ne, cmpP_zero]
    simp only
    omega
/-- The places of an entry up to a date. -/
def jPls (date : Int) (i : Nat) (x : Jrn) : List Plc := if x.date > date then [] else lnsAt x i 0 x.lines
/-- The places of entries up to a date, the first one's number being i. -/
def plsAt (date : Int) : Nat → List Jrn → List Plc
  | _, [] => []
  | i, x :: t => jPls date i x ++ plsAt date (i + 1) t
theorem plsAt_snoc (date : Int) (x : Jrn) : ∀ (t : List Jrn) (i : Nat), plsAt date i (t ++ [x]) = plsAt date i t ++ jPls date (i + t.length) x
  | [], i => by simp [plsAt]
  | a :: t, i => by
    rw [List.cons_append, plsAt, plsAt_snoc date x t (i + 1), plsAt, List.append_assoc, List.length_cons]
    have : i + 1 + t.length = i + (t.length + 1) := by omega
    rw [this]
theorem jPls_mem {date : Int} {i : Nat} {x : Jrn} {p : Plc} (h : p ∈ jPls date i x) : p.at_ = i := by
  unfold jPls at h
  split at h
  · exact absurd h List.not_mem_nil
  · exact (lnsAt_mem x i _ _ p h).1
theorem plsAt_mem (date : Int) : ∀ (t : List Jrn) (i : Nat) (p : Plc), p ∈ plsAt date i t → (i : Int) ≤ p.at_
  | [], i, p, h => absurd h List.not_mem_nil
  | a :: t, i, p, h => by
    rw [plsAt] at h
    rcases List.mem_append.1 h with h | h
    · rw [jPls_mem h]; exact Int.le_refl _
    · have := plsAt_mem date t (i + 1) p h
      omega
theorem plsAt_apart (date : Int) : ∀ (t : List Jrn) (i : Nat), (plsAt date i t).Pairwise (fun a b => cmpP a b ≠ 0)
  | [], i => List.Pairwise.nil
  | a :: t, i => by
    rw [plsAt, List.pairwise_append]
    refine ⟨?_, plsAt_apart date t (i + 1), fun p hp q hq => ?_⟩
    · unfold jPls
      split
      · exact List.Pairwise.nil
      · exact lnsAt_apart a i _ _
    · have h1 := jPls_mem hp
      have h2 := plsAt_mem date t (i + 1) q hq
      rw [Ne, cmpP_zero]
      omega
/-- The places of entries up to a date, in order. -/
def places (date : Int) (l : List Jrn) : List Plc := sortPl (plsAt date 0 l)
theorem plsAt_len (date : Int) (m : Nat) : ∀ (t : List Jrn) (i : Nat), (∀ x ∈ t, x.lines.length ≤ m) → (plsAt date i t).length ≤ t.length * m
  | [], i, _ => by simp [plsAt]
  | a :: t, i, h => by
    have h1 := plsAt_len date m t (i + 1) (fun x hx => h x (List.mem_cons_of_mem _ hx))
    have h2 := h a (List.mem_cons_self ..)
    have h3 : (jPls date i a).length ≤ m := by
      unfold jPls
      split
      · simp
      · rw [lnsAt_length]; exact h2
    rw [plsAt, List.length_append, List.length_cons, Nat.add_mul, Nat.one_mul]
    omega
theorem jPls_filter (date late : Int) (h : date ≤ late) (i : Nat) (x : Jrn) : (jPls late i x).filter (fun p => decide (p.date ≤ date)) = jPls date i x := by
  have hd : ∀ (t : List Ln) (k : Nat), ∀ p ∈ lnsAt x i k t, p.date = x.date := by
    intro t
    induction t with
    | nil => intro k p hp; exact absurd hp List.not_mem_nil
    | cons a t ih =>
      intro k p hp
      rw [lnsAt] at hp
      rcases List.mem_cons.1 hp with rfl | hp
      · rfl
      · exact ih _ p hp
  unfold jPls
  split
  · rw [if_pos (by omega)]; rfl
  · split
    · rw [List.filter_eq_nil_iff]
      intro p hp
      rw [hd _ _ p hp]; simp; omega
    · rw [List.filter_eq_self]
      intro p hp
      rw [hd _ _ p hp]; simp; omega
theorem plsAt_filter (date late : Int) (h : date ≤ late) : ∀ (t : List Jrn) (i : Nat), (plsAt late i t).filter (fun p => decide (p.date ≤ date)) = plsAt date i t
  | [], i => rfl
  | a :: t, i => by rw [plsAt, List.filter_append, jPls_filter date late h, plsAt_filter date late h t (i + 1), plsAt]
/-- The places up to an earlier date are those of the places up to a later one that pass. -/
theorem places_filter (date late : Int) (h : date ≤ late) (l : List Jrn) : places date l = (places late l).filter (fun p => decide (p.date ≤ date)) := by
  unfold places
  rw [← plsAt_filter date late h, sortPl_filter (plsAt_apart late l 0)]
end Go.Proofs.Ytfddhmhagijodaa

namespace Go.Proofs.Ytfddhmhagijodaa
set_option linter.unusedSimpArgs false
set_option linter.unusedVariables false

/-- The total of an account. -/
def tot : List Plc → Int → Int
  | [], _ => 0
  | p :: t, c => (if p.acc = c then p.amt else 0) + tot t c
theorem tot_append (L M : List Plc) (c : Int) : tot (L ++ M) c = tot L c + tot M c := by
  induction L with
  | nil => simp [tot]
  | cons p L ih => rw [List.cons_append, tot, tot, ih]; omega
theorem tot_perm {L M : List Plc} (h : L.Perm M) (c : Int) : tot L c = tot M c := by
  induction h with
  | nil => rfl
  | cons p _ ih => rw [tot, tot, ih]
  | swap p q l => simp only [tot]; omega
  | trans _ _ h1 h2 => exact h1.trans h2
theorem tot_zero {L : List Plc} {c : Int} (h : ∀ p ∈ L, p.acc ≠ c) : tot L c = 0 := by
  induction L with
  | nil => rfl
  | cons p L ih => rw [tot, if_neg (h p (List.mem_cons_self ..)), ih (fun q hq => h q (List.mem_cons_of_mem _ hq))]; rfl
/-- A number as 64 bits hold it. -/
def wr64 (n : Int) : Int := (n + 9223372036854775808) % 18446744073709551616 - 9223372036854775808
theorem wr64_add (a b : Int) : wr64 (wr64 a + b) = wr64 (a + b) := by unfold wr64; omega
theorem wr64_add2 (a b : Int) : wr64 (wr64 a + wr64 b) = wr64 (a + b) := by unfold wr64; omega
theorem wr64_rng (a : Int) : -9223372036854775808 ≤ wr64 a ∧ wr64 a ≤ 9223372036854775807 := by unfold wr64; omega
theorem wr64_same {a : Int} (h : -9223372036854775808 ≤ a ∧ a ≤ 9223372036854775807) : wr64 a = a := by unfold wr64; omega
/-- The sum of an account: what a map of sums has. -/
def sumF (L : List Plc) (c : Int) : Option Int := if L.any (fun p => decide (p.acc = c)) then some (wr64 (tot L c)) else none
theorem sumF_nil (c : Int) : sumF [] c = none := rfl
theorem tot_none {L : List Plc} {c : Int} (h : L.any (fun p => decide (p.acc = c)) = false) : tot L c = 0 := by
  refine tot_zero fun p hp e => ?_
  have := List.any_eq_false.1 h p hp
  simp [e] at this
theorem sumF_getD (L : List Plc) (c : Int) : (sumF L c).getD 0 = wr64 (tot L c) := by
  unfold sumF
  split
  · rfl
  · rename_i h
    rw [tot_none (by simpa using h)]; rfl
theorem sumF_snoc (L : List Plc) (p : Plc) : sumF (L ++ [p]) p.acc = some (wr64 ((sumF L p.acc).getD 0 + p.amt)) := by
  rw [sumF_getD, wr64_add]
  unfold sumF
  rw [if_pos (by simp), tot_append]
  simp [tot]
theorem sumF_other (L : List Plc) (p : Plc) (c : Int) (h : c ≠ p.acc) : sumF (L ++ [p]) c = sumF L c := by
  have h2 : p.acc ≠ c := fun e => h e.symm
  unfold sumF
  rw [List.any_append, tot_append]
  simp [tot, h2]
theorem sumF_rng {L : List Plc} {c x : Int} (h : sumF L c = some x) : -9223372036854775808 ≤ x ∧ x ≤ 9223372036854775807 := by
  unfold sumF at h
  split at h
  · cases h; exact wr64_rng _
  · cases h
theorem sumF_some {L : List Plc} {c : Int} : (sumF L c).isSome = true ↔ ∃ p ∈ L, p.acc = c := by
  unfold sumF
  split
  · rename_i h; simpa using h
  · rename_i h; simpa using h
/-- Ascending accounts. -/
def AscN (l : List Bal) : Prop := l.Pairwise (fun a b => a.acc < b.acc)
/-- The list says the sums. -/
def NetIs (L : List Plc) (l : List Bal) : Prop := AscN l ∧ ∀ x, x ∈ l ↔ sumF L x.acc = some x.amount
def nzN (l : List Bal) : List Bal := l.filter (fun x => x.amount != 0)
/-- The list says the sums that are not 0. -/
def NetZ (L : List Plc) (l : List Bal) : Prop := AscN l ∧ ∀ x, x ∈ l ↔ x.amount ≠ 0 ∧ x.amount = wr64 (tot L x.acc)
theorem NetIs.nz {L : List Plc} {l : List Bal} (h : NetIs L l) : NetZ L (nzN l) := by
  refine ⟨h.1.filter _, fun x => ?_⟩
  unfold nzN
  rw [List.mem_filter, h.2]
  constructor
  · rintro ⟨h1, h2⟩
    have h3 := sumF_getD L x.acc
    rw [h1] at h3
    exact ⟨by simpa using h2, h3⟩
  · rintro ⟨h1, h2⟩
    refine ⟨?_, by simpa using h1⟩
    have h3 := sumF_getD L x.acc
    cases hs : sumF L x.acc with
    | none => rw [hs, ← h2] at h3; exact absurd h3.symm h1
    | some y => rw [hs, ← h2] at h3; exact congrArg some h3
theorem netz_ext {L M : List Plc} {l m : List Bal} (hl : NetZ L l) (hm : NetZ M m) (h : ∀ c, wr64 (tot L c) = wr64 (tot M c)) : l = m := by
  refine sorted_ext (fun a b : Bal => a.acc < b.acc) (fun x => Int.lt_irrefl _) (fun x y z => Int.lt_trans) l m hl.1 hm.1 fun x => ?_
  rw [hl.2, hm.2, h]
/-- A sum set among sorted ones. -/
def putN : List Bal → Int → Int → List Bal
  | [], a, n => [⟨a, n⟩]
  | x :: t, a, n => if x.acc < a then x :: putN t a n else if x.acc = a then ⟨a, wr64 (x.amount + n)⟩ :: t else ⟨a, n⟩ :: x :: t
theorem putN_mem {l : List Bal} (h : AscN l) (a n : Int) (x : Bal) : x ∈ putN l a n ↔ (x.acc ≠ a ∧ x ∈ l) ∨ (x.acc = a ∧ ((∃ y ∈ l, y.acc = a ∧ x.amount = wr64 (y.amount + n)) ∨ ((∀ y ∈ l, y.acc ≠ a) ∧ x.amount = n))) := by
  obtain ⟨xa, xn⟩ := x
  induction l with
  | nil =>
    simp only [putN, List.mem_singleton, Bal.mk.injEq, List.not_mem_nil, and_false, false_or, false_and, exists_false]
    constructor
    · rintro ⟨rfl, rfl⟩; exact ⟨rfl, fun y h => absurd h (by simp), rfl⟩
    · rintro ⟨rfl, _, rfl⟩; exact ⟨rfl, rfl⟩
  | cons y t ih =>
    obtain ⟨ya, yn⟩ := y
    unfold AscN at h
    rw [List.pairwise_cons] at h
    have ih := ih h.2
    have hlt := h.1
    simp only at hlt ih
    unfold putN
    simp only
    by_cases h1 : ya < a
    · rw [if_pos h1, List.mem_cons, ih, List.mem_cons]
      simp only [Bal.mk.injEq, List.mem_cons, forall_eq_or_imp, exists_eq_or_imp]
      have hne : ya ≠ a := by omega
      constructor
      · rintro (⟨rfl, rfl⟩ | ⟨e, h2⟩ | ⟨e, h2⟩)
        · exact .inl ⟨hne, .inl ⟨rfl, rfl⟩⟩
        · exact .inl ⟨e, .inr h2⟩
        · refine .inr ⟨e, ?_⟩
          rcases h2 with h2 | ⟨h2, h3⟩
          · exact .inl (.inr h2)
          · exact .inr ⟨⟨hne, h2⟩, h3⟩
      · rintro (⟨e, h2⟩ | ⟨e, h2⟩)
        · rcases h2 with h2 | h2
          · exact .inl h2
          · exact .inr (.inl ⟨e, h2⟩)
        · refine .inr (.inr ⟨e, ?_⟩)
          rcases h2 with h2 | ⟨⟨_, h2⟩, h3⟩
          · rcases h2 with h2 | h2
            · exact absurd h2.1 hne
            · exact .inl h2
          · exact .inr ⟨h2, h3⟩
    · rw [if_neg h1]
      by_cases h2 : ya = a
      · subst h2
        rw [if_pos rfl, List.mem_cons, List.mem_cons]
        simp only [Bal.mk.injEq, List.mem_cons, forall_eq_or_imp, exists_eq_or_imp]
        have hno : ∀ z ∈ t, z.acc ≠ ya := fun z hz e => by have := hlt z hz; omega
        constructor
        · rintro (⟨rfl, rfl⟩ | h3)
          · exact .inr ⟨rfl, .inl (.inl (by simp))⟩
          · exact .inl ⟨hno _ h3, .inr h3⟩
        · rintro (⟨e, ⟨h3, _⟩ | h3⟩ | ⟨e, h3 | ⟨⟨h3, _⟩, _⟩⟩)
          · exact absurd h3 e
          · exact .inr h3
          · rcases h3 with ⟨_, h3⟩ | ⟨z, hz, e2, _⟩
            · exact .inl ⟨e, h3⟩
            · exact absurd e2 (hno z hz)
          · exact absurd rfl h3
      · rw [if_neg h2, List.mem_cons, List.mem_cons]
        simp only [Bal.mk.injEq, List.mem_cons, forall_eq_or_imp, exists_eq_or_imp]
        have hno : ∀ z ∈ t, z.acc ≠ a := fun z hz e => by have := hlt z hz; omega
        constructor
        · rintro (⟨rfl, rfl⟩ | h3 | h3)
          · exact .inr ⟨rfl, .inr ⟨⟨h2, hno⟩, rfl⟩⟩
          · exact .inl ⟨by rw [h3.1]; exact h2, .inl h3⟩
          · exact .inl ⟨hno _ h3, .inr h3⟩
        · rintro (⟨e, h3⟩ | ⟨e, h3 | ⟨_, h3⟩⟩)
          · exact .inr h3
          · rcases h3 with ⟨h3, _⟩ | ⟨z, hz, e2, _⟩
            · exact absurd h3 h2
            · exact absurd e2 (hno z hz)
          · exact .inl ⟨e, h3⟩
theorem putN_asc {l : List Bal} (h : AscN l) (a n : Int) : AscN (putN l a n) := by
  induction l with
  | nil => unfold putN AscN; simp
  | cons y t ih =>
    have h0 := h
    unfold AscN at h
    rw [List.pairwise_cons] at h
    unfold putN
    split
    · rename_i h1
      unfold AscN
      rw [List.pairwise_cons]
      refine ⟨fun x hx => ?_, ih h.2⟩
      rcases (putN_mem h.2 a n x).1 hx with ⟨_, h3⟩ | ⟨h3, _⟩
      · exact h.1 x h3
      · rw [h3]; exact h1
    · rename_i h1
      split
      · rename_i h2
        unfold AscN
        rw [List.pairwise_cons]
        exact ⟨fun x hx => by rw [← h2]; exact h.1 x hx, h.2⟩
      · rename_i h2
        unfold AscN
        rw [List.pairwise_cons]
        refine ⟨fun x hx => ?_, h0⟩
        rcases List.mem_cons.1 hx with rfl | hx
        · show a < x.acc; omega
        · have := h.1 x hx; show a < x.acc; omega
theorem NetIs.nil : NetIs [] [] := ⟨List.Pairwise.nil, fun x => by simp [sumF_nil]⟩
theorem NetIs.put {L : List Plc} {l : List Bal} (h : NetIs L l) (p : Plc) (hp : -9223372036854775808 ≤ p.amt ∧ p.amt ≤ 9223372036854775807) : NetIs (L ++ [p]) (putN l p.acc p.amt) := by
  refine ⟨putN_asc h.1 _ _, fun x => ?_⟩
  rw [putN_mem h.1]
  by_cases e : x.acc = p.acc
  · rw [e, sumF_snoc]
    simp only [ne_eq, not_true_eq_false, false_and, false_or, true_and, Option.some.injEq]
    cases hs : sumF L p.acc with
    | none =>
      have hno : ∀ y ∈ l, y.acc ≠ p.acc := fun y hy e2 => by have := (h.2 y).1 hy; rw [e2, hs] at this; cases this
      rw [Option.getD_none, Int.zero_add, wr64_same hp]
      constructor
      · rintro (⟨y, hy, e2, _⟩ | ⟨_, h3⟩)
        · exact absurd e2 (hno y hy)
        · exact h3.symm
      · intro h3; exact .inr ⟨hno, h3.symm⟩
    | some z =>
      have hz : (⟨p.acc, z⟩ : Bal) ∈ l := (h.2 _).2 hs
      rw [Option.getD_some]
      constructor
      · rintro (⟨y, hy, e2, h3⟩ | ⟨h3, _⟩)
        · have := (h.2 y).1 hy
          rw [e2, hs] at this
          rw [h3, ← Option.some.inj this]
        · exact absurd rfl (h3 _ hz)
      · intro h3; exact .inl ⟨_, hz, rfl, h3.symm⟩
  · rw [sumF_other L p _ e]
    constructor
    · rintro (⟨_, h3⟩ | ⟨h3, _⟩)
      · exact (h.2 x).1 h3
      · exact absurd h3 e
    · intro h3; exact .inl ⟨e, (h.2 x).2 h3⟩
theorem putN_len (l : List Bal) (a n : Int) : (putN l a n).length ≤ l.length + 1 := by
  induction l with
  | nil => simp [putN]
  | cons y t ih => unfold putN; split <;> (try split) <;> simp <;> omega
/-- What the sorted keys of a map of sums give. -/
theorem net_keys {L : List Plc} (ks : List Int) (hk : ks.Pairwise (· < ·)) (hm : ∀ c, c ∈ ks ↔ (sumF L c).isSome = true) : NetIs L (ks.map (fun c => ⟨c, (sumF L c).getD 0⟩)) := by
  refine ⟨?_, fun x => ?_⟩
  · unfold AscN; rw [List.pairwise_map]; exact hk
  · rw [List.mem_map]
    constructor
    · rintro ⟨c, hc, rfl⟩
      obtain ⟨y, hy⟩ := Option.isSome_iff_exists.1 ((hm c).1 hc)
      simp [hy]
    · intro h
      exact ⟨x.acc, (hm _).2 (by rw [h]; rfl), by rw [h]; rfl⟩
end Go.Proofs.Ytfddhmhagijodaa
