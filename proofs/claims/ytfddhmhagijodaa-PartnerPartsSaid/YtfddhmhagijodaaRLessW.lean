/- The reference's places of lines, plain. No program is walked; The reference's less at places: the walk. -/
import Derived.Test.YtfddhmhagijodaaFewW
namespace Go.Proofs.Ytfddhmhagijodaa
open Go.RowKit
set_option linter.unusedSimpArgs false
set_option linter.unusedVariables false

/-- A line with its entry and its numbers. -/
structure RP where
  y : JV
  l : Ln
  k : Nat
  i : Nat
def RP.cells (p : RP) : List Value := [.int .i64 p.y.x.id, .int .i64 p.y.x.ent, .int .i64 p.y.x.date, .int .i64 p.y.x.kind, .int .i64 p.y.x.of_, .string p.y.x.text, .slice p.y.a p.y.x.lines.length p.y.c, .int .i64 p.l.acc, .int .i64 p.l.amt, .int .i64 p.l.ptn, .int .i64 p.y.x.id, .int .i64 p.k, .int .i64 p.i, .int .i64 p.k]
theorem RP.len (p : RP) : p.cells.length = 14 := rfl
theorem RP.one (p : RP) : ∀ v ∈ p.cells, v.oneCell' = true := by
  intro v hv
  simp only [RP.cells, List.mem_cons, List.not_mem_nil, or_false] at hv
  rcases hv with rfl | rfl | rfl | rfl | rfl | rfl | rfl | rfl | rfl | rfl | rfl | rfl | rfl | rfl <;> rfl
theorem ones_rp (l : List RP) : ∀ u ∈ l.flatMap RP.cells, u.oneCell' = true := fun u hu => by
  obtain ⟨a, _, hu⟩ := List.mem_flatMap.1 hu
  exact a.one u hu
def RP.plc (p : RP) : Plc := ⟨p.y.x.id, p.k, p.y.x.date, p.i, p.y.x.ent, p.l.acc, p.l.amt, p.l.ptn⟩
/-- A place set among sorted ones. -/
def insR (p : RP) : List RP → List RP
  | [] => [p]
  | q :: t => if cmpP q.plc p.plc < 0 then q :: insR p t else p :: q :: t
theorem insR_plc (p : RP) (L : List RP) : (insR p L).map RP.plc = insP p.plc (L.map RP.plc) := by
  induction L with
  | nil => rfl
  | cons q t ih => unfold insR; rw [List.map_cons, insP]; split <;> simp [ih]
theorem insR_len (p : RP) (L : List RP) : (insR p L).length = L.length + 1 := by
  induction L with
  | nil => rfl
  | cons q t ih => unfold insR; split <;> simp [ih]
/-- Where it is set. -/
theorem insR_at {p : RP} : ∀ {L : List RP} {n : Nat}, n ≤ L.length → (∀ q ∈ L.take n, cmpP q.plc p.plc < 0) → (∀ h : n < L.length, ¬ cmpP L[n].plc p.plc < 0) → insR p L = L.take n ++ [p] ++ L.drop n
  | [], n, h, _, _ => by simp [insR]
  | q :: t, 0, _, _, h0 => by
    have := h0 (by simp)
    unfold insR
    rw [if_neg (by simpa using this)]; simp
  | q :: t, n + 1, hn, hb, h0 => by
    have h1 : cmpP q.plc p.plc < 0 := hb q (by simp)
    unfold insR
    rw [if_pos h1, insR_at (n := n) (by simpa using hn) (fun z hz => hb z (by simp [hz])) (fun h => h0 (Nat.succ_lt_succ h))]
    simp
/-- The places of the lines from the k-th on of the i-th entry; of all entries from the i-th on. -/
def rlns (y : JV) (i : Nat) : Nat → List Ln → List RP
  | _, [] => []
  | k, l :: t => ⟨y, l, k, i⟩ :: rlns y i (k + 1) t
def rall : Nat → List JV → List RP
  | _, [] => []
  | i, y :: t => rlns y i 0 y.x.lines ++ rall (i + 1) t
theorem rlns_snoc (y : JV) (i : Nat) (l : Ln) : ∀ (t : List Ln) (k : Nat), rlns y i k (t ++ [l]) = rlns y i k t ++ [⟨y, l, k + t.length, i⟩]
  | [], k => by simp [rlns]
  | a :: t, k => by
    rw [List.cons_append, rlns, rlns_snoc y i l t (k + 1), rlns, List.cons_append, List.length_cons, show k + 1 + t.length = k + (t.length + 1) by omega]
theorem rall_snoc (y : JV) : ∀ (t : List JV) (i : Nat), rall i (t ++ [y]) = rall i t ++ rlns y (i + t.length) 0 y.x.lines
  | [], i => by simp [rall]
  | a :: t, i => by
    rw [List.cons_append, rall, rall_snoc y t (i + 1), rall, List.append_assoc, List.length_cons, show i + 1 + t.length = i + (t.length + 1) by omega]
theorem rlns_plc (y : JV) (i : Nat) : ∀ (t : List Ln) (k : Nat), (rlns y i k t).map RP.plc = lnsAt y.x i k t
  | [], k => rfl
  | a :: t, k => by rw [rlns, List.map_cons, rlns_plc y i t (k + 1), lnsAt]; rfl
/-- The places of all lines, in order. -/
def rsort (L : List RP) : List RP := L.foldl (fun out p => insR p out) []
theorem rsort_snoc (L : List RP) (p : RP) : rsort (L ++ [p]) = insR p (rsort L) := by unfold rsort; rw [List.foldl_append]; rfl
theorem rsort_len (L : List RP) : (rsort L).length = L.length := by
  have h2 : ∀ (M out : List RP), (M.foldl (fun out p => insR p out) out).length = out.length + M.length := by
    intro M
    induction M with
    | nil => intro out; rfl
    | cons p M ih => intro out; rw [List.foldl_cons, ih, insR_len, List.length_cons]; omega
  rw [rsort, h2]; simp
theorem rsort_plc (L : List RP) : (rsort L).map RP.plc = sortPl (L.map RP.plc) := by
  have h : ∀ (M : List RP) (out : List RP), (M.foldl (fun out p => insR p out) out).map RP.plc = (M.map RP.plc).foldl (fun out p => insP p out) (out.map RP.plc) := by
    intro M
    induction M with
    | nil => intro out; rfl
    | cons p M ih => intro out; rw [List.foldl_cons, ih, insR_plc]; rfl
  rw [rsort, h]; rfl
/-- The places of all lines. -/
def allAt : Nat → List Jrn → List Plc
  | _, [] => []
  | i, x :: t => lnsAt x i 0 x.lines ++ allAt (i + 1) t
theorem rall_plc : ∀ (t : List JV) (i : Nat), (rall i t).map RP.plc = allAt i (t.map JV.x)
  | [], i => rfl
  | y :: t, i => by rw [rall, List.map_append, rlns_plc, rall_plc t (i + 1), List.map_cons, allAt]
theorem lnsAt_date (x : Jrn) (i : Nat) : ∀ (t : List Ln) (k : Nat), ∀ p ∈ lnsAt x i k t, p.date = x.date
  | [], k, p, h => absurd h List.not_mem_nil
  | a :: t, k, p, h => by
    rw [lnsAt] at h
    rcases List.mem_cons.1 h with rfl | h
    · rfl
    · exact lnsAt_date x i t (k + 1) p h
theorem allAt_filter (date : Int) : ∀ (t : List Jrn) (i : Nat), (allAt i t).filter (fun p => decide (p.date ≤ date)) = plsAt date i t
  | [], i => rfl
  | a :: t, i => by
    rw [allAt, List.filter_append, allAt_filter date t (i + 1), plsAt]
    congr 1
    unfold jPls
    split
    · rw [List.filter_eq_nil_iff]
      intro p hp
      rw [lnsAt_date _ _ _ _ p hp]; simp; omega
    · rw [List.filter_eq_self]
      intro p hp
      rw [lnsAt_date _ _ _ _ p hp]; simp; omega
theorem allAt_mem : ∀ (t : List Jrn) (i : Nat) (p : Plc), p ∈ allAt i t → (i : Int) ≤ p.at_
  | [], i, p, h => absurd h List.not_mem_nil
  | a :: t, i, p, h => by
    rw [allAt] at h
    rcases List.mem_append.1 h with h | h
    · rw [(lnsAt_mem a i _ _ p h).1]; exact Int.le_refl _
    · have := allAt_mem t (i + 1) p h
      omega
theorem allAt_apart : ∀ (t : List Jrn) (i : Nat), (allAt i t).Pairwise (fun a b => cmpP a b ≠ 0)
  | [], i => List.Pairwise.nil
  | a :: t, i => by
    rw [allAt, List.pairwise_append]
    refine ⟨lnsAt_apart a i _ _, allAt_apart t (i + 1), fun p hp q hq => ?_⟩
    have h1 := (lnsAt_mem a i _ _ p hp).1
    have h2 := allAt_mem t (i + 1) q hq
    rw [Ne, cmpP_zero]
    omega
/-- What the reference keeps of them. -/
def keepR (date en pt : Int) (p : RP) : Bool := decide (p.y.x.ent = en) && decide (p.l.ptn = pt) && decide (p.y.x.date ≤ date)
def rbtw (date en pt : Int) (es : List JV) : List RP := (rsort (rall 0 es)).filter (keepR date en pt)
theorem rbtw_plc (date en pt : Int) (es : List JV) : (rbtw date en pt es).map RP.plc = btw date en pt (es.map JV.x) := by
  unfold rbtw btw places
  rw [← allAt_filter date, sortPl_filter (allAt_apart _ 0), ← rall_plc, ← rsort_plc, List.filter_filter]
  induction rsort (rall 0 es) with
  | nil => rfl
  | cons p t ih =>
    rw [List.filter_cons, List.map_cons, List.filter_cons, ← ih]
    have e : keepR date en pt p = (!outsB en pt p.plc && decide (p.plc.date ≤ date)) := by
      simp only [keepR, outsB, RP.plc]
      by_cases h1 : p.y.x.ent = en <;> by_cases h2 : p.l.ptn = pt <;> simp [h1, h2]
      all_goals rfl
    rw [← e]
    split <;> simp
theorem rlns_len (y : JV) (i : Nat) : ∀ (t : List Ln) (k : Nat), (rlns y i k t).length = t.length
  | [], k => rfl
  | a :: t, k => by rw [rlns, List.length_cons, rlns_len y i t (k + 1), List.length_cons]
theorem rall_len (m : Nat) : ∀ (t : List JV) (i : Nat), (∀ y ∈ t, y.x.lines.length ≤ m) → (rall i t).length ≤ t.length * m
  | [], i, _ => by simp [rall]
  | a :: t, i, h => by
    have h1 := rall_len m t (i + 1) (fun x hx => h x (List.mem_cons_of_mem _ hx))
    have h2 := h a (List.mem_cons_self ..)
    rw [rall, List.length_append, List.length_cons, rlns_len, Nat.add_mul, Nat.one_mul]
    omega
end Go.Proofs.Ytfddhmhagijodaa

namespace Go.Proofs.Ytfddhmhagijodaa
open Go.RowKit
set_option linter.unusedSimpArgs false
set_option linter.unusedVariables false

set_option maxRecDepth 100000 in
set_option maxHeartbeats 2000000 in
theorem rless_any (p q : RP) (w : World) :
    Calls Try.prog 57 #[.agg #[.int .i64 p.y.x.id, .int .i64 p.y.x.ent, .int .i64 p.y.x.date, .int .i64 p.y.x.kind, .int .i64 p.y.x.of_, .string p.y.x.text, .slice p.y.a p.y.x.lines.length p.y.c, .int .i64 p.l.acc, .int .i64 p.l.amt, .int .i64 p.l.ptn, .int .i64 p.y.x.id, .int .i64 p.k, .int .i64 p.i, .int .i64 p.k], .agg #[.int .i64 q.y.x.id, .int .i64 q.y.x.ent, .int .i64 q.y.x.date, .int .i64 q.y.x.kind, .int .i64 q.y.x.of_, .string q.y.x.text, .slice q.y.a q.y.x.lines.length q.y.c, .int .i64 q.l.acc, .int .i64 q.l.amt, .int .i64 q.l.ptn, .int .i64 q.y.x.id, .int .i64 q.k, .int .i64 q.i, .int .i64 q.k]] w fun e w' => e = .returned (.bool (decide (cmpP p.plc q.plc < 0))) ∧ Keeps w w' := by
  have hP := plt_iff p.plc q.plc
  unfold PLt at hP
  simp only [RP.plc] at hP
  by_cases h1 : p.y.x.date = q.y.x.date
  · have e1 : (p.y.x.date != q.y.x.date) = false := by simpa using h1
    by_cases h2 : p.y.x.id = q.y.x.id
    · have e2 : (p.y.x.id != q.y.x.id) = false := by simpa using h2
      by_cases h3 : (p.i : Int) = (q.i : Int)
      · have e3 : ((p.i : Int) != (q.i : Int)) = false := by simpa using h3
        have HQ : Hid (decide (cmpP p.plc q.plc < 0) = decide (p.k < q.k)) := Lib.hid (by
          simp only [RP.plc]; apply decide_eq_decide.2; rw [hP]; omega)
        clear hP h1 h2 h3
        go_enter Try.func57, Try.ntmps57
        go_wp2_with fail
        go_ret
        exact ⟨by rw [HQ.out]; rfl, ((Keeps.refl w).alloc _).alloc _⟩
      · have e3 : ((p.i : Int) != (q.i : Int)) = true := by simpa using h3
        have HQ : Hid (decide (cmpP p.plc q.plc < 0) = decide (p.i < q.i)) := Lib.hid (by
          simp only [RP.plc]; apply decide_eq_decide.2; rw [hP]; omega)
        clear hP h1 h2 h3
        go_enter Try.func57, Try.ntmps57
        go_wp2_with fail
        go_ret
        exact ⟨by rw [HQ.out]; rfl, ((Keeps.refl w).alloc _).alloc _⟩
    · have e2 : (p.y.x.id != q.y.x.id) = true := by simpa using h2
      have HQ : Hid (decide (cmpP p.plc q.plc < 0) = decide (p.y.x.id < q.y.x.id)) := Lib.hid (by
        simp only [RP.plc]; apply decide_eq_decide.2; rw [hP]; omega)
      clear hP h1 h2
      go_enter Try.func57, Try.ntmps57
      go_wp2_with fail
      go_ret
      exact ⟨by rw [HQ.out]; rfl, ((Keeps.refl w).alloc _).alloc _⟩
  · have e1 : (p.y.x.date != q.y.x.date) = true := by simpa using h1
    have HQ : Hid (decide (cmpP p.plc q.plc < 0) = decide (p.y.x.date < q.y.x.date)) := Lib.hid (by
      simp only [RP.plc]; apply decide_eq_decide.2; rw [hP]; omega)
    clear hP h1
    go_enter Try.func57, Try.ntmps57
    go_wp2_with fail
    go_ret
    exact ⟨by rw [HQ.out]; rfl, ((Keeps.refl w).alloc _).alloc _⟩
end Go.Proofs.Ytfddhmhagijodaa
