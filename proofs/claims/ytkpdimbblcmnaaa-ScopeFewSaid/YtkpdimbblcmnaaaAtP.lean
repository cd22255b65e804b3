/- The account of the group of an account: plain. No program. -/
import Derived.Test.YtkpdimbblcmnaaaKBase
namespace Go.Proofs.Ytkpdimbblcmnaaa

def dateB (d : Int) : Bool := decide (-25567 ≤ d) && decide (d ≤ 84005)
theorem dateB_true {d : Int} : dateB d = true ↔ -25567 ≤ d ∧ d ≤ 84005 := by simp [dateB]
theorem dateB_false {d : Int} : dateB d = false ↔ d < -25567 ∨ 84005 < d := by simp only [dateB, Bool.and_eq_false_iff, decide_eq_false_iff_not]; omega
def pickL (m x : Lnk) : Lnk := if m.since < x.since then x else m
def bestL : List Lnk → Option Lnk
  | [] => none
  | x :: r => some (r.foldl pickL x)
theorem bestL_snoc (l : List Lnk) (x : Lnk) : bestL (l ++ [x]) = match bestL l with | none => some x | some m => some (pickL m x) := by
  cases l with
  | nil => rfl
  | cons y r => simp [bestL, List.foldl_append]
def candB (code day : Int) (x : Lnk) : Bool := x.frm == code && decide (x.since ≤ day)
def cands (l : List Lnk) (code day : Int) : List Lnk := l.filter (candB code day)
theorem cands_snoc (l : List Lnk) (x : Lnk) (code day : Int) : cands (l ++ [x]) code day = if candB code day x = true then cands l code day ++ [x] else cands l code day := by
  unfold cands
  rw [List.filter_append]
  by_cases h : candB code day x = true
  · rw [if_pos h]; simp [h]
  · rw [if_neg h]; simp [h]
/-- The result of At: the account and the error. -/
def atS (chart : List Acc) (links : List Lnk) (code day : Int) : Int × Int :=
  if dateB day = false then (0, 2) else if (chart.find? (fun a => a.code == code)) = none then (0, 8)
  else match bestL (cands links code day) with | none => (0, 15) | some m => (m.to, 0)
theorem atS_day {chart : List Acc} {links : List Lnk} {code day : Int} (h : dateB day = false) : atS chart links code day = (0, 2) := by rw [atS, if_pos h]
theorem atS_none {chart : List Acc} {links : List Lnk} {code day : Int} (h : dateB day = true) (h2 : chart.find? (fun a => a.code == code) = none) : atS chart links code day = (0, 8) := by
  rw [atS, if_neg (by simp [h]), if_pos h2]
theorem atS_map {chart : List Acc} {links : List Lnk} {code day : Int} {a : Acc} (h : dateB day = true) (h2 : chart.find? (fun a => a.code == code) = some a) :
    atS chart links code day = match bestL (cands links code day) with | none => (0, 15) | some m => (m.to, 0) := by
  rw [atS, if_neg (by simp [h]), if_neg (by simp [h2])]
theorem bestL_mem {l : List Lnk} {m : Lnk} (h : bestL l = some m) : m ∈ l := by
  cases l with
  | nil => cases h
  | cons x r =>
    simp only [bestL, Option.some.injEq] at h
    subst h
    have : ∀ (r : List Lnk) (x : Lnk), r.foldl pickL x = x ∨ r.foldl pickL x ∈ r := by
      intro r
      induction r with
      | nil => intro x; exact .inl rfl
      | cons y r ih =>
        intro x
        rw [List.foldl_cons]
        rcases ih (pickL x y) with h | h
        · rw [h]; unfold pickL
          split
          · exact .inr (by simp)
          · exact .inl rfl
        · exact .inr (by simp [h])
    rcases this r x with h | h
    · rw [h]; simp
    · simp [h]
theorem bestL_none {l : List Lnk} : bestL l = none ↔ l = [] := by cases l <;> simp [bestL]
end Go.Proofs.Ytkpdimbblcmnaaa
