/- The matrix of shares: the plain part. -/
import Derived.Test.YtkpdimbblcmnaaaRowsP
import Derived.Test.YtkpdimbblcmnaaaKSet
namespace Go.Proofs.Ytkpdimbblcmnaaa
set_option linter.unusedSimpArgs false
set_option linter.unusedVariables false

def rowH (l : List Hol) (n : Nat) (h day : Int) : List Int := (List.range n).map fun (e : Nat) => atH l h (e : Int) day
def matH (l : List Hol) (n : Nat) (day : Int) : List (List Int) := (List.range n).map fun (h : Nat) => rowH l n (h : Int) day
def matR (n : Int) (l : List Hol) (day : Int) : List (List Int) × Int := if hvalidB n l = false then ([], 1) else if dateB day = false then ([], 2) else (matH l n.toNat day, 0)
theorem matR_1 {n : Int} {l : List Hol} {day : Int} (h1 : hvalidB n l = false) : matR n l day = ([], 1) := by unfold matR; rw [if_pos h1]
theorem matR_2 {n : Int} {l : List Hol} {day : Int} (h1 : hvalidB n l = true) (h2 : dateB day = false) : matR n l day = ([], 2) := by unfold matR; rw [if_neg (by simp [h1]), if_pos h2]
theorem matR_3 {n : Int} {l : List Hol} {day : Int} (h1 : hvalidB n l = true) (h2 : dateB day = true) : matR n l day = (matH l n.toNat day, 0) := by unfold matR; rw [if_neg (by simp [h1]), if_neg (by simp [h2])]
theorem rowH_snoc (l : List Hol) (n : Nat) (h day : Int) : rowH l (n + 1) h day = rowH l n h day ++ [atH l h (n : Int) day] := by simp [rowH, List.range_succ]
theorem rowH_len (l : List Hol) (n : Nat) (h day : Int) : (rowH l n h day).length = n := by simp [rowH]
theorem matH_len (l : List Hol) (n : Nat) (day : Int) : (matH l n day).length = n := by simp [matH]
theorem matH_get (l : List Hol) (n : Nat) (day : Int) (k : Nat) (h : k < (matH l n day).length) : (matH l n day)[k] = rowH l n (k : Int) day := by simp [matH]
theorem rowH_get (l : List Hol) (n : Nat) (h day : Int) (k : Nat) (hk : k < (rowH l n h day).length) : (rowH l n h day)[k] = atH l h (k : Int) day := by simp [rowH]
/-- The first k rows. -/
def rowsH (l : List Hol) (n k : Nat) (day : Int) : List (List Int) := (List.range k).map fun (h : Nat) => rowH l n (h : Int) day
theorem rowsH_snoc (l : List Hol) (n k : Nat) (day : Int) : rowsH l n (k + 1) day = rowsH l n k day ++ [rowH l n (k : Int) day] := by simp [rowsH, List.range_succ]
theorem rowsH_len (l : List Hol) (n k : Nat) (day : Int) : (rowsH l n k day).length = k := by simp [rowsH]
theorem hvalidB_n {n : Int} {l : List Hol} (h : hvalidB n l = true) : 1 ≤ n ∧ n ≤ 12 := by
  simp only [hvalidB, Bool.and_eq_true, decide_eq_true_eq] at h
  exact ⟨h.1.1.1.1, h.1.1.1.2⟩
/-- An array of twelve whose first cells are xs. -/
def pad12 (xs : List Int) : List Value := xs.map (.int .i64) ++ List.replicate (12 - xs.length) (.int .i64 0)
theorem pad12_nil : pad12 [] = [.int .i64 0, .int .i64 0, .int .i64 0, .int .i64 0, .int .i64 0, .int .i64 0, .int .i64 0, .int .i64 0, .int .i64 0, .int .i64 0, .int .i64 0, .int .i64 0] := rfl
theorem pad12_set {xs : List Int} (h : xs.length < 12) (x : Int) : (pad12 xs).set xs.length (.int .i64 x) = pad12 (xs ++ [x]) := by
  unfold pad12
  have e : 12 - xs.length = (12 - (xs ++ [x]).length) + 1 := by simp; omega
  rw [e, List.replicate_succ, List.set_append_right _ _ (by simp)]
  simp
end Go.Proofs.Ytkpdimbblcmnaaa
