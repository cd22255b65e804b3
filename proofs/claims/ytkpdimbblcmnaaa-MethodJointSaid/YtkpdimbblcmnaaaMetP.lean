/- Methods of consolidation: the plain part. -/
import Derived.Test.YtkpdimbblcmnaaaCtlCtl
import Derived.Test.YtkpdimbblcmnaaaCtlVotesW
import Derived.Deep.MidRow
namespace Go.Proofs.Ytkpdimbblcmnaaa
open Go.RowKit
set_option linter.unusedSimpArgs false
set_option linter.unusedVariables false

/-- The method of entity e. -/
def mthE (f : Nat → Nat → Int) (js : List Bool) (e : Nat) : Int :=
  if inA f js.length js.length e = true then 3 else if voteK f (inA f js.length js.length) e js.length < 2000 then 0 else if js.getD e false = true then 2 else 1
theorem mthE_full {f : Nat → Nat → Int} {js : List Bool} {e : Nat} (h : inA f js.length js.length e = true) : mthE f js e = 3 := by unfold mthE; rw [if_pos h]
theorem mthE_none {f : Nat → Nat → Int} {js : List Bool} {e : Nat} (h : inA f js.length js.length e = false) (h2 : voteK f (inA f js.length js.length) e js.length < 2000) : mthE f js e = 0 := by unfold mthE; rw [if_neg (by simp [h]), if_pos h2]
theorem mthE_joint {f : Nat → Nat → Int} {js : List Bool} {e : Nat} (h : inA f js.length js.length e = false) (h2 : ¬ voteK f (inA f js.length js.length) e js.length < 2000) (h3 : js.getD e false = true) : mthE f js e = 2 := by unfold mthE; rw [if_neg (by simp [h]), if_neg h2, if_pos h3]
theorem mthE_equity {f : Nat → Nat → Int} {js : List Bool} {e : Nat} (h : inA f js.length js.length e = false) (h2 : ¬ voteK f (inA f js.length js.length) e js.length < 2000) (h3 : js.getD e false = false) : mthE f js e = 1 := by unfold mthE; rw [if_neg (by simp [h]), if_neg h2, if_neg (by rw [h3]; exact Bool.false_ne_true)]
theorem mthE_rng (f : Nat → Nat → Int) (js : List Bool) (e : Nat) : 0 ≤ mthE f js e ∧ mthE f js e ≤ 3 := by unfold mthE; split <;> (try split) <;> (try split) <;> decide
/-- The methods and an error. -/
def methR (js : List Bool) (l : List Hol) (day : Int) : List Int × Int := if (matR (js.length : Int) l day).2 = 0 then (fnI (mthE (f0 l day) js) js.length, 0) else ([], (matR (js.length : Int) l day).2)
/-- The method of one and an error. -/
def matR' (js : List Bool) (l : List Hol) (entity day : Int) : Int × Int := if (methR js l day).2 = 0 then (if 0 ≤ entity ∧ entity < (js.length : Int) then (mthE (f0 l day) js entity.toNat, 0) else (0, 2)) else (0, (methR js l day).2)
theorem meth_cases (js : List Bool) (l : List Hol) (day : Int) : (1 ≤ js.length ∧ js.length ≤ 12 ∧ hvalidB (js.length : Int) l = true ∧ dateB day = true ∧ ctlR (js.length : Int) l day = (fnB (inA (f0 l day) js.length js.length) js.length, 0) ∧ votesR (js.length : Int) l day = (fnI (fun e => voteK (f0 l day) (inA (f0 l day) js.length js.length) e js.length) js.length, 0) ∧ methR js l day = (fnI (mthE (f0 l day) js) js.length, 0)) ∨
    (∃ re, re ≠ 0 ∧ ctlR (js.length : Int) l day = ([], re) ∧ votesR (js.length : Int) l day = ([], re) ∧ methR js l day = ([], re)) := by
  cases h1 : hvalidB (js.length : Int) l with
  | false =>
    right
    have h := matR_1 (day := day) h1
    exact ⟨1, by decide, by unfold ctlR; rw [h]; simp, by unfold votesR; rw [h]; simp, by unfold methR; rw [h]; simp⟩
  | true =>
    cases h2 : dateB day with
    | false =>
      right
      have h := matR_2 h1 h2
      exact ⟨2, by decide, by unfold ctlR; rw [h]; simp, by unfold votesR; rw [h]; simp, by unfold methR; rw [h]; simp⟩
    | true =>
      left
      obtain ⟨hn1, hn2⟩ := hvalidB_n h1
      have h := matR_3 h1 h2
      rw [Int.toNat_natCast, matH_f0] at h
      exact ⟨by omega, by omega, rfl, rfl, by unfold ctlR; rw [h]; simp, by unfold votesR; rw [h]; simp, by unfold methR; rw [h]; simp⟩
/-- Changing one. -/
theorem mthE_other {f : Nat → Nat → Int} {js : List Bool} {a : Nat} {b : Bool} {e : Nat} (h : e ≠ a) : mthE f (js.set a b) e = mthE f js e := by
  unfold mthE
  rw [List.length_set]
  have : (js.set a b).getD e false = js.getD e false := by simp [List.getD, List.getElem?_set, Ne.symm h]
  rw [this]
theorem mthE_own {f : Nat → Nat → Int} {js : List Bool} {a : Nat} (ha : a < js.length) : (mthE f js a = 1 ∧ mthE f (js.set a (!js[a])) a = 2) ∨ (mthE f js a = 2 ∧ mthE f (js.set a (!js[a])) a = 1) ∨ (mthE f (js.set a (!js[a])) a = mthE f js a ∧ mthE f js a ≠ 1 ∧ mthE f js a ≠ 2) := by
  unfold mthE
  rw [List.length_set]
  have e1 : (js.set a (!js[a])).getD a false = !js[a] := by simp [List.getD, ha]
  have e2 : js.getD a false = js[a] := by simp [List.getD, ha]
  rw [e1, e2]
  cases hj : js[a] <;> split <;> (try split) <;> simp
/-- Nothing is held. -/
theorem mthE_alone {l : List Hol} {day : Int} {js : List Bool} {i : Nat} (hv : hvalidB (js.length : Int) l = true) (hi : 1 ≤ i) (hh : ∀ x ∈ l, ¬ (x.entity = (i : Int) ∧ 0 < x.share ∧ x.date ≤ day)) : mthE (f0 l day) js i = 0 := by
  have hp := (hvalidB_iff.1 hv).2.1
  have h0 : ∀ h, f0 l day h i = 0 := by
    intro h
    unfold f0 atH
    cases hc : curH day (ofPair l (h : Int) (i : Int)) with
    | none => rfl
    | some m =>
      obtain ⟨h1, h2⟩ := List.mem_filter.1 (curH_mem hc)
      simp only [pairB, Bool.and_eq_true, beq_iff_eq] at h2
      have h3 := (curH_max hc).1
      have h4 := (properB_true (hp m h1)).2.2.2.2.2.2.1
      show m.share = 0
      rcases Int.lt_or_le 0 m.share with h5 | h5
      · exact absurd ⟨h2.2, h5, h3⟩ (hh m h1)
      · omega
  have hv0 : ∀ S k, voteK (f0 l day) S i k = 0 := by
    intro S k
    induction k with
    | zero => rfl
    | succ k ih => simp only [voteK]; rw [ih, h0]; simp
  have hin : ∀ k, inA (f0 l day) js.length k i = false := by
    intro k
    induction k with
    | zero => simp [inA]; omega
    | succ k ih => simp only [inA]; rw [ih, hv0]; simp
  exact mthE_none (hin _) (by rw [hv0]; decide)
theorem fnB_cell {w : World} {ao : Option Addr} {φ : Nat → Bool} {n cap b o : Nat} (H : Sl w 1 ao n cap b o ((fnB φ n).map .bool)) (k : Nat) (hk : k < n) : w.cell? ⟨b, o + k, none⟩ = some (.bool (φ k)) :=
  H.cell k _ (by simp [fnB, hk])
/-- A whole struct out of its block. -/
theorem RowB.range {W : World} {B : Nat} {t : TypeId} {vs : List Value} (h : RowB W B t vs) : W.rangeAt B 0 vs := fun j v hv => by rw [Nat.zero_add]; exact h.cell j v hv
theorem groupSize : (Try.prog.info? 33).map (·.size) = some 21 := by kernel_rfl
/-- The cells of a group that 'Joint' makes. -/
def grpC (v : Value) : List Value := [.string ⟨#[]⟩, .int .i64 0, .int .i64 0, .int .i64 0, .slice none 0 0, .int .i64 0, .int .i64 0, .int .i64 0, .int .i64 0, .int .i64 0, .int .i64 0, .int .i64 0, .int .i64 0, .int .i64 0, .int .i64 0, .int .i64 0, .int .i64 0, .int .i64 0, .int .i64 0, .int .i64 0, v]
end Go.Proofs.Ytkpdimbblcmnaaa
