/- Several texts of the seat in one: CtlP, CtlBits, CtlVotes. -/
import Derived.Laws.Bits64b
import Derived.Laws.BitsLemmas
import Derived.Laws.BitsAllLaws
import Derived.Test.YtkpdimbblcmnaaaProg
import Derived.Test.YtkpdimbblcmnaaaRowsP
import Derived.WalkKit
/- Who is controlled, step by step: the plain part. No program. -/
namespace Go.Proofs.Ytkpdimbblcmnaaa
set_option linter.unusedSimpArgs false
set_option linter.unusedVariables false

/-- The votes of the first k entities of a set in an entity. -/
def voteK (f : Nat → Nat → Int) (S : Nat → Bool) (e : Nat) : Nat → Int
  | 0 => 0
  | k + 1 => voteK f S e k + (if S k then f k e else 0)
/-- Who is found within k steps. -/
def inA (f : Nat → Nat → Int) (n : Nat) : Nat → Nat → Bool
  | 0 => fun e => e == 0
  | k + 1 => fun e => inA f n k e || (decide (e < n) && decide (5000 < voteK f (inA f n k) e n))
/-- The ranks after k steps. -/
def rkA (f : Nat → Nat → Int) (n : Nat) : Nat → Nat → Int
  | 0 => fun e => if e = 0 then 0 else -1
  | k + 1 => fun e => if 0 ≤ rkA f n k e then rkA f n k e else if inA f n (k + 1) e = true then (k : Int) + 1 else -1
/-- Who is found in step k. -/
def frA (f : Nat → Nat → Int) (n : Nat) : Nat → Nat → Bool
  | 0 => inA f n 0
  | k + 1 => fun e => inA f n (k + 1) e && !inA f n k e
section
variable {f : Nat → Nat → Int} {n : Nat}
theorem voteK_congr {S T : Nat → Bool} {e k : Nat} (h : ∀ i < k, S i = T i) : voteK f S e k = voteK f T e k := by
  induction k with
  | zero => rfl
  | succ k ih => simp only [voteK]; rw [ih fun i hi => h i (by omega), h k (by omega)]
theorem voteK_bd (hf : ∀ h e, 0 ≤ f h e ∧ f h e ≤ 10000) (S : Nat → Bool) (e k : Nat) : 0 ≤ voteK f S e k ∧ voteK f S e k ≤ 10000 * k := by
  induction k with
  | zero => simp [voteK]
  | succ k ih =>
    simp only [voteK]
    have := hf k e
    split <;> omega
theorem voteK_mono {g : Nat → Nat → Int} (hg : ∀ h e, 0 ≤ g h e) {S T : Nat → Bool} {e : Nat} (hfg : ∀ h, f h e ≤ g h e) (hST : ∀ i, S i = true → T i = true) (k : Nat) : voteK f S e k ≤ voteK g T e k := by
  induction k with
  | zero => simp [voteK]
  | succ k ih =>
    simp only [voteK]
    have h1 := hfg k
    have h2 := hg k e
    cases hs : S k with
    | true => rw [hST k hs]; simp; omega
    | false => cases T k <;> simp <;> omega
theorem inA_succ {k e : Nat} (h : inA f n k e = true) : inA f n (k + 1) e = true := by simp [inA, h]
theorem inA_le {i j e : Nat} (hij : i ≤ j) (h : inA f n i e = true) : inA f n j e = true := by
  induction hij with
  | refl => exact h
  | step _ ih => exact inA_succ ih
theorem inA_lt (hn : 1 ≤ n) {k e : Nat} (h : inA f n k e = true) : e < n := by
  induction k with
  | zero => simp [inA] at h; omega
  | succ k ih =>
    simp only [inA, Bool.or_eq_true, Bool.and_eq_true, decide_eq_true_eq] at h
    rcases h with h | h
    · exact ih h
    · exact h.1
theorem rkA_ge (k e : Nat) : -1 ≤ rkA f n k e := by
  induction k with
  | zero => simp only [rkA]; split <;> omega
  | succ k ih =>
    simp only [rkA]
    split
    · omega
    · split <;> omega
theorem rkA_le (k e : Nat) : rkA f n k e ≤ k := by
  induction k with
  | zero => simp only [rkA]; split <;> omega
  | succ k ih =>
    simp only [rkA]
    split
    · omega
    · split <;> omega
theorem rkA_iff (k e : Nat) : 0 ≤ rkA f n k e ↔ inA f n k e = true := by
  induction k with
  | zero => simp only [rkA, inA]; split <;> simp_all
  | succ k ih =>
    simp only [rkA]
    split
    · rename_i h
      exact ⟨fun _ => inA_succ (ih.1 h), fun _ => h⟩
    · split
      · rename_i h; exact ⟨fun _ => h, fun _ => by omega⟩
      · rename_i h; exact ⟨fun h2 => absurd h2 (by decide), fun h2 => absurd h2 h⟩
theorem rkA_neg {k e : Nat} (h : inA f n k e = false) : rkA f n k e = -1 := by
  have h1 := rkA_iff (f := f) (n := n) k e
  have h2 := rkA_ge (f := f) (n := n) k e
  rw [h] at h1
  simp at h1
  omega
theorem rkA_new {k e : Nat} (h : frA f n (k + 1) e = true) : rkA f n (k + 1) e = (k : Int) + 1 := by
  simp only [frA, Bool.and_eq_true, Bool.not_eq_true'] at h
  have h1 := rkA_neg h.2
  simp only [rkA, h1]
  rw [if_neg (by decide), if_pos h.1]
theorem rkA_old {k e : Nat} (h : frA f n (k + 1) e = false) : rkA f n (k + 1) e = rkA f n k e := by
  simp only [frA, Bool.and_eq_false_iff, Bool.not_eq_false'] at h
  simp only [rkA]
  split
  · rfl
  · rename_i h2
    rw [rkA_iff] at h2
    rw [if_neg (by rcases h with h | h; simp [h]; exact absurd h h2), rkA_neg (by simpa using h2)]
/-- Within step k + 1, whatever part of the ranks is new already. -/
theorem rk_within (k e : Nat) : (0 ≤ rkA f n (k + 1) e ∧ rkA f n (k + 1) e < (k : Int) + 1) ↔ inA f n k e = true := by
  cases h : frA f n (k + 1) e with
  | true =>
    rw [rkA_new h]
    simp only [frA, Bool.and_eq_true, Bool.not_eq_true'] at h
    rw [h.2]
    simp
  | false =>
    rw [rkA_old h, ← rkA_iff]
    have := rkA_le (f := f) (n := n) k e
    omega
/-- The sizes. -/
def cntA (S : Nat → Bool) : Nat → Nat
  | 0 => 0
  | k + 1 => cntA S k + (if S k then 1 else 0)
theorem cntA_le (S : Nat → Bool) (k : Nat) : cntA S k ≤ k := by
  induction k with
  | zero => simp [cntA]
  | succ k ih => simp only [cntA]; split <;> omega
theorem cntA_mono {S T : Nat → Bool} (h : ∀ i, S i = true → T i = true) (k : Nat) : cntA S k ≤ cntA T k := by
  induction k with
  | zero => simp [cntA]
  | succ k ih =>
    simp only [cntA]
    cases hs : S k with
    | true => rw [h k hs]; simp; omega
    | false => simp; omega
theorem cntA_lt {S T : Nat → Bool} (h : ∀ i, S i = true → T i = true) {e k : Nat} (he : e < k) (h1 : S e = false) (h2 : T e = true) : cntA S k < cntA T k := by
  induction k with
  | zero => omega
  | succ k ih =>
    simp only [cntA]
    by_cases hek : e = k
    · subst hek
      rw [h1, h2]
      have := cntA_mono h e
      simp
      omega
    · have := ih (by omega)
      cases hs : S k with
      | true => rw [h k hs]; simp; omega
      | false => simp; omega
theorem cnt_steps (hn : 1 ≤ n) {k : Nat} (h : ∀ j ≤ k, ∃ e, frA f n j e = true) : k + 1 ≤ cntA (inA f n k) n := by
  induction k with
  | zero =>
    have : 0 < cntA (inA f n 0) n := by
      have := cntA_lt (S := fun _ => false) (T := inA f n 0) (fun i h => by simp at h) (e := 0) (k := n) (by omega) rfl (by simp [inA])
      omega
    omega
  | succ k ih =>
    have h1 := ih fun j hj => h j (by omega)
    obtain ⟨e, he⟩ := h (k + 1) (Nat.le_refl _)
    simp only [frA, Bool.and_eq_true, Bool.not_eq_true'] at he
    have := cntA_lt (S := inA f n k) (T := inA f n (k + 1)) (fun i hi => inA_succ hi) (inA_lt hn he.1) he.2 he.1
    omega
theorem step_lt (hn : 1 ≤ n) {k : Nat} (h : ∀ j ≤ k, ∃ e, frA f n j e = true) : k < n := by
  have h1 := cnt_steps hn h
  have h2 := cntA_le (inA f n k) n
  omega
theorem stable {k : Nat} (h : ∀ e, frA f n (k + 1) e = false) {j : Nat} (hj : k ≤ j) : inA f n j = inA f n k ∧ rkA f n j = rkA f n k := by
  have h0 : inA f n (k + 1) = inA f n k := by
    funext e
    have := h e
    simp only [frA, Bool.and_eq_false_iff, Bool.not_eq_false'] at this
    cases h1 : inA f n k e with
    | true => exact inA_succ h1
    | false => rcases this with h2 | h2; exact h2; rw [h1] at h2; cases h2
  induction hj with
  | refl => exact ⟨rfl, rfl⟩
  | @step j hj ih =>
    have h1 : inA f n (j + 1) = inA f n k := by
      funext e
      have h2 : inA f n (j + 1) e = (inA f n j e || (decide (e < n) && decide (5000 < voteK f (inA f n j) e n))) := rfl
      have h3 : inA f n (k + 1) e = (inA f n k e || (decide (e < n) && decide (5000 < voteK f (inA f n k) e n))) := rfl
      rw [h2, ih.1, ← h3, h0]
    refine ⟨h1, ?_⟩
    funext e
    rw [rkA_old]
    · rw [ih.2]
    · simp only [frA, Bool.and_eq_false_iff, Bool.not_eq_false']
      rw [h1, ih.1]
      cases inA f n k e <;> simp
/-- Behind n steps nothing is new; and the last step in which someone is found has all. -/
theorem ends (hn : 1 ≤ n) {k : Nat} (h : ∀ j < k, ∃ e, frA f n j e = true) (hk : 1 ≤ k) (h2 : ∀ e, frA f n k e = false) : rkA f n n = rkA f n (k - 1) ∧ inA f n n = inA f n (k - 1) := by
  obtain ⟨j, rfl⟩ : ∃ j, k = j + 1 := ⟨k - 1, by omega⟩
  have h1 := step_lt hn (k := j) fun i hi => h i (by omega)
  have := stable h2 (j := n) (by omega)
  exact ⟨this.2, this.1⟩
/-- A closed set contains all. -/
theorem inA_closed {T : Nat → Bool} (hf : ∀ h e, 0 ≤ f h e) (h0 : T 0 = true) (hc : ∀ e, e < n → 5000 < voteK f T e n → T e = true) : ∀ k e, inA f n k e = true → T e = true := by
  intro k
  induction k with
  | zero => intro e he; simp [inA] at he; subst he; exact h0
  | succ k ih =>
    intro e he
    simp only [inA, Bool.or_eq_true, Bool.and_eq_true, decide_eq_true_eq] at he
    rcases he with he | ⟨h1, h2⟩
    · exact ih e he
    · refine hc e h1 (Int.lt_of_lt_of_le h2 (voteK_mono hf (fun h => Int.le_refl _) (fun i hi => ih i hi) n))
theorem inA_grows {g : Nat → Nat → Int} (hg : ∀ h e, 0 ≤ g h e) (hfg : ∀ h e, f h e ≤ g h e) : ∀ k e, inA f n k e = true → inA g n k e = true := by
  intro k
  induction k with
  | zero => intro e he; exact he
  | succ k ih =>
    intro e he
    simp only [inA, Bool.or_eq_true, Bool.and_eq_true, decide_eq_true_eq] at he ⊢
    rcases he with he | ⟨h1, h2⟩
    · exact .inl (ih e he)
    · exact .inr ⟨h1, Int.lt_of_lt_of_le h2 (voteK_mono hg (fun h => hfg h e) (fun i hi => ih i hi) n)⟩
end
/-- A set of entities as the bits of a number. -/
def encB (S : Nat → Bool) : Nat → Nat
  | 0 => 0
  | k + 1 => encB S k + (if S k then 2 ^ k else 0)
theorem encB_lt (S : Nat → Bool) (k : Nat) : encB S k < 2 ^ k := by
  induction k with
  | zero => simp [encB]
  | succ k ih => simp only [encB, Nat.pow_succ]; split <;> omega
theorem encB_bit (S : Nat → Bool) (k i : Nat) : (encB S k).testBit i = (decide (i < k) && S i) := by
  induction k with
  | zero => simp [encB]
  | succ k ih =>
    simp only [encB]
    cases hs : S k with
    | false =>
      simp only [Bool.false_eq_true, if_false, Nat.add_zero, ih]
      by_cases hi : i = k
      · subst hi; simp [hs]
      · have : decide (i < k + 1) = decide (i < k) := by simp; omega
        rw [this]
    | true =>
      simp only [if_true]
      have hlt := encB_lt S k
      rcases Nat.lt_trichotomy i k with h | rfl | h
      · rw [Nat.add_comm, Nat.testBit_two_pow_add_gt h, ih]
        have : decide (i < k + 1) = decide (i < k) := by simp; omega
        rw [this]
      · rw [Nat.add_comm, Nat.testBit_two_pow_add_eq, ih]
        simp [hs]
      · rw [Nat.testBit_lt_two_pow]
        · have : decide (i < k + 1) = false := by simp; omega
          rw [this]; rfl
        · have h2 : 2 ^ (k + 1) ≤ 2 ^ i := Nat.pow_le_pow_right (by omega) (by omega)
          rw [Nat.pow_succ] at h2
          omega
theorem encB_or (S T : Nat → Bool) (k : Nat) : encB S k ||| encB T k = encB (fun i => S i || T i) k := by
  apply Nat.eq_of_testBit_eq
  intro i
  rw [Nat.testBit_or, encB_bit, encB_bit, encB_bit]
  cases decide (i < k) <;> simp
theorem encB_zero (S : Nat → Bool) (k : Nat) : encB S k = 0 ↔ ∀ i < k, S i = false := by
  constructor
  · intro h i hi
    have := encB_bit S k i
    rw [h] at this
    simp [hi] at this
    exact this
  · intro h
    induction k with
    | zero => rfl
    | succ k ih => simp only [encB]; rw [ih fun i hi => h i (by omega), h k (by omega)]; rfl
theorem encB_shift (S : Nat → Bool) (k h : Nat) (hh : h < k) : encB S k / 2 ^ h % 2 = if S h then 1 else 0 := by
  have := encB_bit S k h
  rw [Nat.testBit_eq_decide_div_mod_eq] at this
  simp [hh] at this
  cases hs : S h with
  | true => rw [hs] at this; simpa using this
  | false => rw [hs] at this; simp at this; simp; omega
end Go.Proofs.Ytkpdimbblcmnaaa

/- Sets as bits of 16: the machine's words on them. No program. -/
namespace Go.Proofs.Ytkpdimbblcmnaaa
theorem and16 (a b : Nat) (ha : a < 65536) (hb : b < 65536) : bits .and .u16 (a : Int) (b : Int) = ((a &&& b : Nat) : Int) := by
  have hx : a &&& b < 2 ^ 16 := Nat.and_lt_two_pow _ (by omega)
  have h1 : (BitVec.ofInt 16 (a : Int)).toNat = a := by
    rw [BitVec.ofInt_natCast, BitVec.toNat_ofNat]; exact Nat.mod_eq_of_lt (by omega)
  have h2 : (BitVec.ofInt 16 (b : Int)).toNat = b := by
    rw [BitVec.ofInt_natCast, BitVec.toNat_ofNat]; exact Nat.mod_eq_of_lt (by omega)
  show IntKind.u16.wrap ((BitVec.ofInt 16 (a : Int) &&& BitVec.ofInt 16 (b : Int)).toNat : Int) = _
  rw [BitVec.toNat_and, h1, h2, show IntKind.u16.wrap _ = _ from rfl]
  simp [IntKind.wrap, IntKind.bits, IntKind.signed]
  omega
theorem or16 (a b : Nat) (ha : a < 65536) (hb : b < 65536) : bits .or .u16 (a : Int) (b : Int) = ((a ||| b : Nat) : Int) := by
  have hx : a ||| b < 2 ^ 16 := Nat.or_lt_two_pow (by omega) (by omega)
  have h1 : (BitVec.ofInt 16 (a : Int)).toNat = a := by
    rw [BitVec.ofInt_natCast, BitVec.toNat_ofNat]; exact Nat.mod_eq_of_lt (by omega)
  have h2 : (BitVec.ofInt 16 (b : Int)).toNat = b := by
    rw [BitVec.ofInt_natCast, BitVec.toNat_ofNat]; exact Nat.mod_eq_of_lt (by omega)
  show IntKind.u16.wrap ((BitVec.ofInt 16 (a : Int) ||| BitVec.ofInt 16 (b : Int)).toNat : Int) = _
  rw [BitVec.toNat_or, h1, h2, show IntKind.u16.wrap _ = _ from rfl]
  simp [IntKind.wrap, IntKind.bits, IntKind.signed]
  omega
theorem encB_lt12 (S : Nat → Bool) {n : Nat} (hn : n ≤ 12) : encB S n < 4096 := Nat.lt_of_lt_of_le (encB_lt S n) (by have := Nat.pow_le_pow_right (n := 2) (by omega) hn; simpa using this)
theorem castDiv (a h : Nat) : ((a : Nat) : Int) / 2 ^ h = ((a / 2 ^ h : Nat) : Int) := by
  rw [Int.natCast_ediv, Int.natCast_pow]; rfl
theorem bit16 (S : Nat → Bool) {n h : Nat} (hn : n ≤ 12) (hh : h < n) : bits .and .u16 ((encB S n : Nat) / 2 ^ h) 1 = if S h then 1 else 0 := by
  have h1 := encB_lt12 S hn
  have h2 : encB S n / 2 ^ h < 65536 := Nat.lt_of_le_of_lt (Nat.div_le_self _ _) (by omega)
  have h3 := and16 (encB S n / 2 ^ h) 1 h2 (by omega)
  rw [castDiv]
  rw [show ((1 : Nat) : Int) = 1 from rfl] at h3
  rw [h3, Nat.and_one_is_mod, encB_shift S n h hh]
  split <;> rfl
theorem bit16_yes {S : Nat → Bool} {n h : Nat} (hn : n ≤ 12) (hh : h < n) (hs : S h = true) : bits .and .u16 ((encB S n : Nat) / 2 ^ h) 1 = 1 := by rw [bit16 S hn hh, hs]; rfl
theorem bit16_no {S : Nat → Bool} {n h : Nat} (hn : n ≤ 12) (hh : h < n) (hs : S h = false) : bits .and .u16 ((encB S n : Nat) / 2 ^ h) 1 = 0 := by rw [bit16 S hn hh, hs]; rfl
theorem orEnc (S T : Nat → Bool) {n : Nat} (hn : n ≤ 12) : bits .or .u16 (encB S n : Nat) (encB T n : Nat) = ((encB (fun i => S i || T i) n : Nat) : Int) := by
  have h1 := encB_lt12 S hn
  have h2 := encB_lt12 T hn
  rw [or16 _ _ (by omega) (by omega), encB_or]
theorem orBit {S : Nat → Bool} {e : Nat} (he : e < 12) (hs : S e = true) : bits .or .u16 (encB S e : Nat) (2 ^ e) = ((encB S (e + 1) : Nat) : Int) := by
  have h1 := encB_lt12 S (n := e) (by omega)
  have h2 : 2 ^ e < 4096 := by have := Nat.pow_lt_pow_right (a := 2) (by omega) he; simpa using this
  have h3 := or16 (encB S e) (2 ^ e) (by omega) (by omega)
  rw [Int.natCast_pow] at h3
  rw [show ((2 : Nat) : Int) = 2 from rfl] at h3
  rw [h3]
  congr 1
  simp only [encB, hs, if_true]
  have := Nat.two_pow_add_eq_or_of_lt (encB_lt S e) 1
  rw [Nat.mul_one] at this
  rw [Nat.or_comm, ← this, Nat.add_comm]
theorem orBit' {S : Nat → Bool} {e : Nat} (he : e < 12) (hs : S e = true) : bits .or .u16 (encB S e : Nat) (IntKind.u16.wrap (2 ^ e)) = ((encB S (e + 1) : Nat) : Int) := by
  have h2 : 2 ^ e < 4096 := by have := Nat.pow_lt_pow_right (a := 2) (by omega) he; simpa using this
  have h3 : IntKind.u16.wrap ((2 : Int) ^ e) = 2 ^ e := by
    have e1 : ((2 : Int) ^ e) = ((2 ^ e : Nat) : Int) := by rw [Int.natCast_pow]; rfl
    rw [e1, IntKind.wrap_u16]
    generalize 2 ^ e = p at h2
    omega
  rw [h3]
  exact orBit he hs
end Go.Proofs.Ytkpdimbblcmnaaa

/- control.votes: the walk. -/
namespace Go.Proofs.Ytkpdimbblcmnaaa
open Go.RowKit
set_option linter.unusedSimpArgs false
set_option linter.unusedVariables false

/-- A square matrix. -/
def matF (f : Nat → Nat → Int) (n : Nat) : List (List Int) := (List.range n).map fun (h : Nat) => (List.range n).map fun (e : Nat) => f h e
theorem matF_len (f : Nat → Nat → Int) (n : Nat) : (matF f n).length = n := by simp [matF]
theorem matF_get (f : Nat → Nat → Int) (n : Nat) (k : Nat) (h : k < (matF f n).length) : (matF f n)[k] = (List.range n).map fun (e : Nat) => f k e := by simp [matF]
/-- A row of the matrix, and its elements. -/
theorem matF_at {w : World} {ao : Option Addr} {f : Nat → Nat → Int} {n cap b o : Nat} (H : Rows w ao (matF f n) cap b o) (i : Nat) (hi : i < n) :
    ∃ ao2 cap2 b2 o2, w.cell? ⟨b, o + i, none⟩ = some (.slice ao2 n cap2) ∧ n ≤ cap2 ∧ cap2 ≤ 9223372036854775807 ∧
      (∀ k, k < n → w.cell? ⟨b2, o2 + k, none⟩ = some (.int .i64 (f i k))) ∧
      (∀ k, k < n → ∀ w', (Instr.indexAt 35 (.slice ao2 n cap2) (.int .i64 (k : Int))).run Try.prog w' = .ok (.pointer (some ⟨b2, o2 + k, none⟩)) w') := by
  obtain ⟨ao2, cap2, b2, o2, h1, h2⟩ := H.at i (by rw [matF_len]; exact hi)
  rw [matF_get] at h1 h2
  have hl : ((List.range n).map fun (e : Nat) => f i e).length = n := by simp
  have hle := h2.le
  have hcap := h2.cap
  rw [hl] at h1 hle
  refine ⟨ao2, cap2, b2, o2, h1, hle, hcap, fun k hk => ?_, fun k hk => ?_⟩
  · have := h2.int k (by rw [hl]; exact hk)
    simpa using this
  · have := h2.at1 Try.underlying35 Try.sizeOf3 k (by rw [hl]; exact hk)
    rw [hl] at this
    exact this
theorem matF_ix {w : World} {ao : Option Addr} {f : Nat → Nat → Int} {n cap b o : Nat} (H : Rows w ao (matF f n) cap b o) (i : Nat) (hi : i < n) :
    ∀ w', (Instr.indexAt 77 (.slice ao n cap) (.int .i64 (i : Int))).run Try.prog w' = .ok (.pointer (some ⟨b, o + i, none⟩)) w' := by
  have := H.at1 Try.underlying77 Try.sizeOf35 i (by rw [matF_len]; exact hi)
  rw [matF_len] at this
  exact this
set_option maxRecDepth 100000 in
set_option maxHeartbeats 1000000 in
theorem votes_any (f : Nat → Nat → Int) (n : Nat) (hn : n ≤ 12) (hf : ∀ h e, 0 ≤ f h e ∧ f h e ≤ 10000) (S : Nat → Bool) (e : Nat) (he : e < n) (ao : Option Addr) (cap b o : Nat) (w : World) (H : Rows w ao (matF f n) cap b o) :
    Calls Try.prog 47 #[.slice ao n cap, .int .u16 (encB S n : Nat), .int .i64 (e : Int)] w fun en w' => en = .returned (.int .i64 (voteK f S e n)) ∧ w' = w := by
  have hcap := H.cap
  have hle := H.le
  rw [matF_len] at hle
  have HH := Lib.hid H
  have HF := Lib.hid hf
  clear H hf
  go_enter Try.func47, Try.ntmps47
  go_wp2_with fail
  go_loopw [7, 12] (fun vs vi wr => ∃ (k : Nat) (s : Int), k ≤ n ∧ vi = .int .i64 k ∧ vs = .int .i64 s ∧ 0 ≤ s ∧ s ≤ 120000 ∧ Hid (s = voteK f S e k) ∧ wr = w) (fun _ vi _ => n - (intOf vi).toNat)
  case atStart => exact ⟨0, 0, Nat.zero_le _, rfl, rfl, by omega, by omega, Lib.hid rfl, rfl⟩
  case round =>
    obtain ⟨k, s, hk, rfl, rfl, h0, h1, HS, rfl⟩ := hrel
    by_cases hlt : k < n
    · obtain ⟨ao2, cap2, b2, o2, c0, h2, h3, h4, h5⟩ := matF_at HH.out k hlt
      have hix := matF_ix HH.out k hlt
      have hiy := h5 e he
      have c1 := h4 e he
      clear h4 h5
      obtain ⟨x, hx⟩ : ∃ x, f k e = x := ⟨_, rfl⟩
      have hxb := HF.out k e
      rw [hx] at c1 hxb
      obtain ⟨hx0, hx1⟩ := hxb
      cases hs : S k with
      | true =>
        have hb := bit16_yes hn hlt hs
        have HN : Hid (s + x = voteK f S e (k + 1)) := Lib.hid (by rw [HS.out]; simp only [voteK]; rw [hs, hx]; rfl)
        have hsn : s + x ≤ 120000 := by
          rw [HN.out]
          have := (voteK_bd HF.out S e (k + 1)).2
          omega
        clear hs hx
        go_wp2_with fail
        go_roundw
        case rel => exact ⟨k + 1, s + x, by omega, by go_num, rfl, by omega, by omega, HN, trivial⟩
        case measure => simp [intOf]; omega
      | false =>
        have hb := bit16_no hn hlt hs
        have HN : Hid (s = voteK f S e (k + 1)) := Lib.hid (by rw [HS.out]; simp only [voteK]; rw [hs]; simp)
        clear hs hx
        go_wp2_with fail
        go_roundw
        case rel => exact ⟨k + 1, s, by omega, by go_num, rfl, by omega, by omega, HN, trivial⟩
        case measure => simp [intOf]; omega
    · obtain rfl : k = n := by omega
      go_wp2_with fail
      go_ret
      rw [HS.out]
      exact ⟨rfl, rfl⟩
end Go.Proofs.Ytkpdimbblcmnaaa

