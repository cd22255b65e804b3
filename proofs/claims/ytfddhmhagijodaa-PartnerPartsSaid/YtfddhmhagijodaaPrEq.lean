/- Pairs of numbers: their order, their sorted lists. No program is walked; Two pairs compared. -/
import Derived.Test.YtfddhmhagijodaaRLessW
import Derived.Laws.StructEq
namespace Go.Proofs.Ytfddhmhagijodaa
open Go.RowKit
set_option linter.unusedSimpArgs false
set_option linter.unusedVariables false

structure Pr where
  a : Int
  b : Int
deriving DecidableEq, Inhabited
def Pr.cells (p : Pr) : List Value := [.int .i64 p.a, .int .i64 p.b]
theorem Pr.len (p : Pr) : p.cells.length = 2 := rfl
theorem Pr.one (p : Pr) : ∀ v ∈ p.cells, v.oneCell' = true := by
  intro u hu
  simp only [Pr.cells, List.mem_cons, List.not_mem_nil, or_false] at hu
  rcases hu with rfl | rfl <;> rfl
def Pr.Ok (p : Pr) : Prop := I64 p.a ∧ I64 p.b
def PrLt (x y : Pr) : Prop := x.a < y.a ∨ (x.a = y.a ∧ x.b < y.b)
instance (x y : Pr) : Decidable (PrLt x y) := by unfold PrLt; infer_instance
theorem PrLt.trans {x y z : Pr} (h : PrLt x y) (k : PrLt y z) : PrLt x z := by unfold PrLt at *; omega
theorem PrLt.irrefl {x : Pr} (h : PrLt x x) : False := by unfold PrLt at h; omega
theorem PrLt.total (x y : Pr) : PrLt x y ∨ x = y ∨ PrLt y x := by
  obtain ⟨a, b⟩ := x
  obtain ⟨c, d⟩ := y
  simp only [PrLt, Pr.mk.injEq]
  omega
/-- In ascending order, none twice. -/
def PAsc (l : List Pr) : Prop := l.Pairwise PrLt
theorem PAsc.nodup {l : List Pr} (h : PAsc l) : l.Nodup := h.imp fun h e => by subst e; exact h.irrefl
theorem PAsc.eq {l m : List Pr} (hl : PAsc l) (hm : PAsc m) (h : ∀ x, x ∈ l ↔ x ∈ m) : l = m := by
  refine List.Perm.eq_of_pairwise (le := PrLt) (fun a b _ _ h1 h2 => (h1.trans h2).irrefl.elim) hl hm ((List.perm_ext_iff_of_nodup hl.nodup hm.nodup).2 h)
/-- The pair of a line. -/
def Plc.pr (p : Plc) : Pr := ⟨p.ent, p.ptn⟩
def prsOf (L : List Plc) : List Pr := (L.filter (fun p => decide (p.ptn ≠ -1))).map Plc.pr
theorem mem_prsOf {L : List Plc} {x : Pr} : x ∈ prsOf L ↔ ∃ p ∈ L, p.ptn ≠ -1 ∧ p.pr = x := by
  unfold prsOf
  simp only [List.mem_map, List.mem_filter, decide_eq_true_eq]
  constructor
  · rintro ⟨p, ⟨h1, h2⟩, h3⟩; exact ⟨p, h1, h2, h3⟩
  · rintro ⟨p, h1, h2, h3⟩; exact ⟨p, ⟨h1, h2⟩, h3⟩
def PairsAre (L : List Plc) (l : List Pr) : Prop := PAsc l ∧ ∀ x, x ∈ l ↔ x ∈ prsOf L
theorem PairsAre.unique {L : List Plc} {l m : List Pr} (h : PairsAre L l) (k : PairsAre L m) : l = m := h.1.eq k.1 fun x => by rw [h.2, k.2]
/-- A pair set among sorted ones. -/
def insU (x : Pr) : List Pr → List Pr
  | [] => [x]
  | y :: t => if PrLt y x then y :: insU x t else if y = x then y :: t else x :: y :: t
theorem mem_insU {x z : Pr} : ∀ {l : List Pr}, z ∈ insU x l ↔ z = x ∨ z ∈ l
  | [] => by simp [insU]
  | y :: t => by
    unfold insU
    split
    · rw [List.mem_cons, mem_insU, List.mem_cons]
      constructor
      · rintro (h | h | h) <;> simp [h]
      · rintro (h | h | h) <;> simp [h]
    · split
      · rename_i _ h
        rw [List.mem_cons]
        constructor
        · exact fun h => .inr h
        · rintro (h2 | h2)
          · exact .inl (h2.trans h.symm)
          · exact h2
      · rw [List.mem_cons]
theorem insU_asc {x : Pr} : ∀ {l : List Pr}, PAsc l → PAsc (insU x l)
  | [], _ => List.pairwise_singleton _ _
  | y :: t, h => by
    unfold insU
    have h1 := List.pairwise_cons.1 h
    split
    · rename_i hyx
      refine List.pairwise_cons.2 ⟨fun z hz => ?_, insU_asc h1.2⟩
      rcases mem_insU.1 hz with rfl | hz
      · exact hyx
      · exact h1.1 z hz
    · split
      · exact h
      · rename_i h2 h3
        have hxy : PrLt x y := by
          rcases PrLt.total x y with h | h | h
          · exact h
          · exact absurd h.symm h3
          · exact absurd h h2
        refine List.pairwise_cons.2 ⟨fun z hz => ?_, h⟩
        rcases List.mem_cons.1 hz with rfl | hz
        · exact hxy
        · exact hxy.trans (h1.1 z hz)
theorem insU_len {x : Pr} : ∀ {l : List Pr}, (insU x l).length ≤ l.length + 1
  | [] => by simp [insU]
  | y :: t => by
    unfold insU
    split
    · have := insU_len (x := x) (l := t); simp only [List.length_cons]; omega
    · split <;> simp
theorem insU_at {x : Pr} : ∀ {L : List Pr} {n : Nat}, n ≤ L.length → (∀ q ∈ L.take n, PrLt q x) → (∀ h : n < L.length, ¬ PrLt L[n] x) → insU x L = if (∃ h : n < L.length, L[n] = x) then L else L.take n ++ [x] ++ L.drop n
  | [], n, _, _, _ => by
    rw [if_neg (by rintro ⟨h, _⟩; simp at h)]
    simp [insU]
  | y :: t, 0, _, _, h => by
    have h0 := h (by simp)
    simp only [List.getElem_cons_zero] at h0
    unfold insU
    rw [if_neg h0]
    by_cases hy : y = x
    · rw [if_pos hy, if_pos ⟨by simp, by simpa using hy⟩]
    · rw [if_neg hy, if_neg (by rintro ⟨_, h⟩; exact hy (by simpa using h))]
      simp
  | y :: t, n + 1, hn, ha, h => by
    have h1 : PrLt y x := ha y (by simp)
    unfold insU
    rw [if_pos h1, insU_at (L := t) (n := n) (by simpa using hn) (fun q hq => ha q (by simp [hq])) (fun hl => by have := h (by simpa using hl); simpa using this)]
    by_cases he : ∃ h : n < t.length, t[n] = x
    · rw [if_pos he, if_pos (by obtain ⟨h2, h3⟩ := he; exact ⟨by simpa using h2, by simpa using h3⟩)]
    · rw [if_neg he, if_neg (by rintro ⟨h2, h3⟩; exact he ⟨by simpa using h2, by simpa using h3⟩)]
      simp
def pairsR (Q : List Pr) : List Pr := Q.foldl (fun l x => insU x l) []
theorem pairsR_snoc (Q : List Pr) (x : Pr) : pairsR (Q ++ [x]) = insU x (pairsR Q) := by unfold pairsR; rw [List.foldl_append]; rfl
theorem snoc_indP {α : Type} {M : List α → Prop} (h0 : M []) (h1 : ∀ l x, M l → M (l ++ [x])) : ∀ l, M l := by
  intro l
  rw [← List.reverse_reverse l]
  induction l.reverse with
  | nil => exact h0
  | cons a t ih => rw [List.reverse_cons]; exact h1 _ _ ih
theorem pairsR_asc : ∀ Q, PAsc (pairsR Q) := snoc_indP List.Pairwise.nil fun l x h => by rw [pairsR_snoc]; exact insU_asc h
theorem mem_pairsR {x : Pr} : ∀ Q, x ∈ pairsR Q ↔ x ∈ Q := snoc_indP (by simp [pairsR]) fun l y h => by rw [pairsR_snoc, mem_insU, h, List.mem_append, List.mem_singleton]; exact Or.comm
theorem pairsR_len : ∀ Q, (pairsR Q).length ≤ Q.length := snoc_indP (Nat.le_refl _) fun l y h => by rw [pairsR_snoc]; have := insU_len (x := y) (l := pairsR l); rw [List.length_append, List.length_singleton]; omega
def RP.pr (p : RP) : Pr := p.plc.pr
def keepQ (date : Int) (p : RP) : Bool := decide (p.l.ptn ≠ -1) && decide (p.y.x.date ≤ date)
theorem rpairs_are (date : Int) (es : List JV) : PairsAre (places date (es.map JV.x)) (pairsR (((rsort (rall 0 es)).filter (keepQ date)).map RP.pr)) := by
  refine ⟨pairsR_asc _, fun x => ?_⟩
  rw [mem_pairsR, mem_prsOf]
  have h1 : ∀ q : Plc, q ∈ places date (es.map JV.x) ↔ q ∈ plsAt date 0 (es.map JV.x) := fun q => by rw [places, mem_sortPl (plsAt_apart date _ 0)]
  have h2 : ∀ q : Plc, q ∈ (rsort (rall 0 es)).map RP.plc ↔ q ∈ allAt 0 (es.map JV.x) := fun q => by rw [rsort_plc, rall_plc, mem_sortPl (allAt_apart _ 0)]
  simp only [List.mem_map, List.mem_filter]
  constructor
  · rintro ⟨p, ⟨hp, hk⟩, rfl⟩
    unfold keepQ at hk
    simp only [Bool.and_eq_true, decide_eq_true_eq] at hk
    have hm := (h2 p.plc).1 (List.mem_map_of_mem hp)
    refine ⟨p.plc, (h1 _).2 ?_, hk.1, rfl⟩
    rw [← allAt_filter, List.mem_filter]
    exact ⟨hm, decide_eq_true hk.2⟩
  · rintro ⟨q, hq, hq1, rfl⟩
    have hm := (h1 q).1 hq
    rw [← allAt_filter, List.mem_filter] at hm
    obtain ⟨p, hp, rfl⟩ := List.mem_map.1 ((h2 q).2 hm.1)
    refine ⟨p, ⟨hp, ?_⟩, rfl⟩
    unfold keepQ
    simp only [Bool.and_eq_true, decide_eq_true_eq]
    exact ⟨hq1, of_decide_eq_true hm.2⟩
end Go.Proofs.Ytfddhmhagijodaa

namespace Go.Proofs.Ytfddhmhagijodaa
open Go.RowKit
set_option linter.unusedSimpArgs false
set_option linter.unusedVariables false

theorem eqInPr (a b c d : Int) (w : World) : (Op.equalIn 10000 66 (.agg #[.int .i64 a, .int .i64 b]) (.agg #[.int .i64 c, .int .i64 d])).run Try.prog w = .ok (a == c && b == d) w := by
  have u3 := Try.underlying3
  have a3 := Try.isAgg3
  have z3 := Try.sizeOf3
  rw [show (10000 : Nat) = 9999 + 1 from rfl, Op.equalIn]
  simp only [Sem.run_bind, run_underlying Try.underlying66, Result.andThen_ok]
  simp only [Std.Legacy.Range.forIn_eq_forIn_range', Std.Legacy.Range.size, Nat.sub_zero, Nat.add_sub_cancel, Nat.div_one, List.range'_succ, List.range'_zero, List.forIn_cons, List.forIn_nil]
  go_simp
  by_cases h1 : a = c <;> by_cases h2 : b = d <;> simp [h1, h2]
theorem neqPr (x y : Pr) (w : World) : (binOp .neq 66 (.agg #[.int .i64 x.a, .int .i64 x.b]) (.agg #[.int .i64 y.a, .int .i64 y.b])).run Try.prog w = .ok (.bool (decide (x ≠ y))) w := by
  have h := eqInPr x.a x.b y.a y.b w
  obtain ⟨a, b⟩ := x
  obtain ⟨c, d⟩ := y
  go_simp
  by_cases h1 : a = c <;> by_cases h2 : b = d <;> simp [h1, h2]
end Go.Proofs.Ytfddhmhagijodaa
