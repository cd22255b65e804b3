/- Several texts of the seat in one: MetP, IvlP, ScopeP, ScopeQ. -/
import Derived.Test.YtkpdimbblcmnaaaCtlCtl
import Derived.Test.YtkpdimbblcmnaaaCtlVotesW
import Derived.Deep.MidRow
import Derived.Test.YtkpdimbblcmnaaaHolDates
import Derived.Test.YtkpdimbblcmnaaaKSet
/- Methods of consolidation: the plain part. -/
namespace Go.Proofs.Ytkpdimbblcmnaaa
open Go.RowKit
set_option linter.unusedSimpArgs false
set_option linter.unusedVariables false

/-- The method of entity e. -/
def mthE (f : Nat → Nat → Int) (js : List Bool) (e : Nat) : Int :=
  if inA f js.length js.length e = true then 3 else if voteK f (inA f js.length js.length) e js.length < 2000 then 0 else if js.getD e false = true then 2 else 1
theorem mthE_full {f : Nat → Nat → Int} {js : List Bool} {e : Nat} (h : inA f js.length js.length e = true) : mthE f js e = 3 := by unfold mthE; rw [if_pos h]
theorem mthE_none {f : Nat → Nat → Int} {js : List Bool} {e : Nat} (h : inA f js.length js.length e = false) (h2 : voteK f (inA f js.length js.length) e js.length < 2000) : mthE f js e = 0 := by unfold mthE; rw [if_neg (by simp [h]), if_pos h2]
theorem mthE_joint {f : Nat → Nat → Int} {js : List Bool} {e : Nat} (h : inA f js.length js.length e = false) (h2 : ¬ voteK f (inA f js.length js.length) e js.length < 2000) (h3 : js.getD e false = true) : mthE f js e = 2 := by unfold mthE; rw [if_neg (by simp [h]), if_neg h2, if_pos h3]
theorem mthE_equity {f : Nat → Nat → Int} {js : List Bool} {e : Nat} (h : inA f js.length js.length e = false) (h2 : ¬ voteK f (inA f js.length js.length) e js.length < 2000) (h3 : js.getD e false = false) : mthE f js e = 1 := by unfold mthE; rw [if_neg (by simp [h]), if_neg h2, if_neg (by rw [h3]; exact Bool.false_ne_true)]
theorem mthE_rng (f : Nat → Nat → Int) (js : List Bool) (e : Nat) : 0 ≤ mthE f js e ∧ mthE f js e ≤ 3 := by unfold mthE; split <;> (try split) <;> (try split) <;> decide
/-- The methods and an error. -/
def methR (js : List Bool) (l : List Hol) (day : Int) : List Int × Int := if (matR (js.length : Int) l day).2 = 0 then (fnI (mthE (f0 l day) js) js.length, 0) else ([], (matR (js.length : Int) l day).2)
/-- The method of one and an error. -/
def matR' (js : List Bool) (l : List Hol) (entity day : Int) : Int × Int := if (methR js l day).2 = 0 then (if 0 ≤ entity ∧ entity < (js.length : Int) then (mthE (f0 l day) js entity.toNat, 0) else (0, 2)) else (0, (methR js l day).2)
theorem meth_cases (js : List Bool) (l : List Hol) (day : Int) : (1 ≤ js.length ∧ js.length ≤ 12 ∧ hvalidB (js.length : Int) l = true ∧ dateB day = true ∧ ctlR (js.length : Int) l day = (fnB (inA (f0 l day) js.length js.length) js.length, 0) ∧ votesR (js.length : Int) l day = (fnI (fun e => voteK (f0 l day) (inA (f0 l day) js.length js.length) e js.length) js.length, 0) ∧ methR js l day = (fnI (mthE (f0 l day) js) js.length, 0)) ∨
    (∃ re, re ≠ 0 ∧ ctlR (js.length : Int) l day = ([], re) ∧ votesR (js.length : Int) l day = ([], re) ∧ methR js l day = ([], re)) := by
  cases h1 : hvalidB (js.length : Int) l with
  | false =>
    right
    have h := matR_1 (day := day) h1
    exact ⟨1, by decide, by unfold ctlR; rw [h]; simp, by unfold votesR; rw [h]; simp, by unfold methR; rw [h]; simp⟩
  | true =>
    cases h2 : dateB day with
    | false =>
      right
      have h := matR_2 h1 h2
      exact ⟨2, by decide, by unfold ctlR; rw [h]; simp, by unfold votesR; rw [h]; simp, by unfold methR; rw [h]; simp⟩
    | true =>
      left
      obtain ⟨hn1, hn2⟩ := hvalidB_n h1
      have h := matR_3 h1 h2
      rw [Int.toNat_natCast, matH_f0] at h
      exact ⟨by omega, by omega, rfl, rfl, by unfold ctlR; rw [h]; simp, by unfold votesR; rw [h]; simp, by unfold methR; rw [h]; simp⟩
/-- Changing one. -/
theorem mthE_other {f : Nat → Nat → Int} {js : List Bool} {a : Nat} {b : Bool} {e : Nat} (h : e ≠ a) : mthE f (js.set a b) e = mthE f js e := by
  unfold mthE
  rw [List.length_set]
  have : (js.set a b).getD e false = js.getD e false := by simp [List.getD, List.getElem?_set, Ne.symm h]
  rw [this]
theorem mthE_own {f : Nat → Nat → Int} {js : List Bool} {a : Nat} (ha : a < js.length) : (mthE f js a = 1 ∧ mthE f (js.set a (!js[a])) a = 2) ∨ (mthE f js a = 2 ∧ mthE f (js.set a (!js[a])) a = 1) ∨ (mthE f (js.set a (!js[a])) a = mthE f js a ∧ mthE f js a ≠ 1 ∧ mthE f js a ≠ 2) := by
  unfold mthE
  rw [List.length_set]
  have e1 : (js.set a (!js[a])).getD a false = !js[a] := by simp [List.getD, ha]
  have e2 : js.getD a false = js[a] := by simp [List.getD, ha]
  rw [e1, e2]
  cases hj : js[a] <;> split <;> (try split) <;> simp
/-- Nothing is held. -/
theorem mthE_alone {l : List Hol} {day : Int} {js : List Bool} {i : Nat} (hv : hvalidB (js.length : Int) l = true) (hi : 1 ≤ i) (hh : ∀ x ∈ l, ¬ (x.entity = (i : Int) ∧ 0 < x.share ∧ x.date ≤ day)) : mthE (f0 l day) js i = 0 := by
  have hp := (hvalidB_iff.1 hv).2.1
  have h0 : ∀ h, f0 l day h i = 0 := by
    intro h
    unfold f0 atH
    cases hc : curH day (ofPair l (h : Int) (i : Int)) with
    | none => rfl
    | some m =>
      obtain ⟨h1, h2⟩ := List.mem_filter.1 (curH_mem hc)
      simp only [pairB, Bool.and_eq_true, beq_iff_eq] at h2
      have h3 := (curH_max hc).1
      have h4 := (properB_true (hp m h1)).2.2.2.2.2.2.1
      show m.share = 0
      rcases Int.lt_or_le 0 m.share with h5 | h5
      · exact absurd ⟨h2.2, h5, h3⟩ (hh m h1)
      · omega
  have hv0 : ∀ S k, voteK (f0 l day) S i k = 0 := by
    intro S k
    induction k with
    | zero => rfl
    | succ k ih => simp only [voteK]; rw [ih, h0]; simp
  have hin : ∀ k, inA (f0 l day) js.length k i = false := by
    intro k
    induction k with
    | zero => simp [inA]; omega
    | succ k ih => simp only [inA]; rw [ih, hv0]; simp
  exact mthE_none (hin _) (by rw [hv0]; decide)
theorem fnB_cell {w : World} {ao : Option Addr} {φ : Nat → Bool} {n cap b o : Nat} (H : Sl w 1 ao n cap b o ((fnB φ n).map .bool)) (k : Nat) (hk : k < n) : w.cell? ⟨b, o + k, none⟩ = some (.bool (φ k)) :=
  H.cell k _ (by simp [fnB, hk])
/-- A whole struct out of its block. -/
theorem RowB.range {W : World} {B : Nat} {t : TypeId} {vs : List Value} (h : RowB W B t vs) : W.rangeAt B 0 vs := fun j v hv => by rw [Nat.zero_add]; exact h.cell j v hv
theorem groupSize : (Try.prog.info? 33).map (·.size) = some 21 := by kernel_rfl
/-- The cells of a group that 'Joint' makes. -/
def grpC (v : Value) : List Value := [.string ⟨#[]⟩, .int .i64 0, .int .i64 0, .int .i64 0, .slice none 0 0, .int .i64 0, .int .i64 0, .int .i64 0, .int .i64 0, .int .i64 0, .int .i64 0, .int .i64 0, .int .i64 0, .int .i64 0, .int .i64 0, .int .i64 0, .int .i64 0, .int .i64 0, .int .i64 0, .int .i64 0, v]
end Go.Proofs.Ytkpdimbblcmnaaa

/- Intervals in which a method is used: the plain part. No program. -/
namespace Go.Proofs.Ytkpdimbblcmnaaa
set_option linter.unusedSimpArgs false
set_option linter.unusedVariables false

/-- An interval. -/
structure Ivl where
  frm : Int
  to : Int
  mth : Int
deriving DecidableEq
def endsAt (x : Ivl) (d : Int) : Ivl := ⟨x.frm, d, x.mth⟩
/-- One day more on which the method may change. -/
def stepI (m : Int → Int) (out : List Ivl) (d : Int) : List Ivl := match out.getLast? with
  | none => [⟨d, 84006, m d⟩]
  | some x => if x.mth = m d then out else out.dropLast ++ [endsAt x d] ++ [⟨d, 84006, m d⟩]
def ivsF (m : Int → Int) (D : List Int) : List Ivl := D.foldl (stepI m) []
theorem ivsF_snoc (m : Int → Int) (D : List Int) (d : Int) : ivsF m (D ++ [d]) = stepI m (ivsF m D) d := by simp [ivsF, List.foldl_append]
theorem stepI_nil (m : Int → Int) (d : Int) : stepI m [] d = [⟨d, 84006, m d⟩] := rfl
theorem stepI_same {m : Int → Int} {out : List Ivl} {x : Ivl} {d : Int} (h : x.mth = m d) : stepI m (out ++ [x]) d = out ++ [x] := by
  unfold stepI; rw [List.getLast?_append]; simp [h]
theorem stepI_new {m : Int → Int} {out : List Ivl} {x : Ivl} {d : Int} (h : x.mth ≠ m d) : stepI m (out ++ [x]) d = out ++ [endsAt x d] ++ [⟨d, 84006, m d⟩] := by
  unfold stepI; rw [List.getLast?_append]; simp [h]
theorem snoc_indI {α : Type} {p : List α → Prop} (h0 : p []) (h1 : ∀ l x, p l → p (l ++ [x])) : ∀ l, p l := by
  have key : ∀ (n : Nat) (l : List α), l.length = n → p l := by
    intro n
    induction n with
    | zero => intro l hl; rw [List.eq_nil_of_length_eq_zero hl]; exact h0
    | succ n ih =>
      intro l hl
      have hne : l ≠ [] := by intro e; subst e; simp at hl
      rw [← List.dropLast_concat_getLast hne]
      exact h1 _ _ (ih _ (by simp [hl]))
  exact fun l => key _ l rfl
/-- What is kept while days go by: D the days so far, z the last one. -/
structure IvInv (m : Int → Int) (D : List Int) (out : List Ivl) : Prop where
  ne : out ≠ []
  first : ∀ x, out.head? = some x → D.head? = some x.frm
  last : ∀ x, out.getLast? = some x → x.to = 84006 ∧ ∀ z, D.getLast? = some z → m z = x.mth
  mem : ∀ x ∈ out, x.frm ∈ D ∧ x.frm < x.to ∧ ∀ e ∈ D, x.frm ≤ e → e < x.to → m e = x.mth
  chain : ∀ k (h : k + 1 < out.length), out[k].to = (out[k + 1]).frm ∧ out[k].mth ≠ (out[k + 1]).mth
theorem ivInv {m : Int → Int} : ∀ {D : List Int}, D ≠ [] → D.Pairwise (· < ·) → (∀ e ∈ D, e ≤ 84005) → IvInv m D (ivsF m D) := by
  intro D
  induction D using snoc_indI with
  | h0 => intro h; exact absurd rfl h
  | h1 D d ih =>
    intro _ hp hb
    rw [ivsF_snoc]
    by_cases hD : D = []
    · subst hD
      show IvInv m ([] ++ [d]) [⟨d, 84006, m d⟩]
      refine ⟨by simp, ?_, ?_, ?_, ?_⟩
      · intro x hx; simp at hx; subst hx; rfl
      · intro x hx; simp at hx; subst hx; exact ⟨rfl, fun z hz => by simp at hz; subst hz; rfl⟩
      · intro x hx; simp at hx; subst hx
        have := hb d (by simp)
        exact ⟨by simp, by show d < 84006; omega, fun e he _ _ => by simp at he; subst he; rfl⟩
      · intro k h; simp at h
    · rw [List.pairwise_append] at hp
      obtain ⟨hp1, _, hp2⟩ := hp
      have I := ih hD hp1 fun e he => hb e (by simp [he])
      have hlt : ∀ e ∈ D, e < d := fun e he => hp2 e he d (by simp)
      obtain ⟨o2, x, ho⟩ : ∃ o2 x, ivsF m D = o2 ++ [x] := ⟨(ivsF m D).dropLast, (ivsF m D).getLast I.ne, (List.dropLast_concat_getLast I.ne).symm⟩
      rw [ho] at I ⊢
      obtain ⟨hx1, hx2⟩ := I.last x (by simp)
      obtain ⟨z, hz⟩ : ∃ z, D.getLast? = some z := ⟨D.getLast hD, List.getLast?_eq_some_getLast hD⟩
      have hhead : (D ++ [d]).head? = D.head? := by cases D with | nil => exact absurd rfl hD | cons a t => rfl
      by_cases hm : x.mth = m d
      · rw [stepI_same hm]
        refine ⟨I.ne, fun y hy => by rw [hhead]; exact I.first y hy, ?_, ?_, I.chain⟩
        · intro y hy
          simp at hy; subst hy
          exact ⟨hx1, fun w hw => by simp at hw; subst hw; exact hm.symm⟩
        · intro y hy
          obtain ⟨a1, a2, a3⟩ := I.mem y hy
          refine ⟨by simp [a1], a2, fun e he b1 b2 => ?_⟩
          rcases List.mem_append.1 he with he | he
          · exact a3 e he b1 b2
          · simp at he; subst he
            -- y must be the last one
            rcases List.mem_append.1 hy with hy | hy
            · exfalso
              obtain ⟨k, hk, rfl⟩ := List.getElem_of_mem hy
              have hk2 : k + 1 < (o2 ++ [x]).length := by simp; omega
              have hc := (I.chain k hk2).1
              rw [List.getElem_append_left hk] at hc
              have h9 := (I.mem _ (List.getElem_mem hk2)).1
              have := hlt _ h9
              omega
            · simp at hy; subst hy; exact hm.symm
      · rw [stepI_new hm]
        obtain ⟨mx1, mx2, mx3⟩ := I.mem x (by simp)
        refine ⟨by simp, ?_, ?_, ?_, ?_⟩
        · intro y hy
          rw [hhead]
          cases o2 with
          | nil => simp at hy; subst hy; exact I.first x rfl
          | cons a t => simp at hy; subst hy; exact I.first a rfl
        · intro y hy
          simp at hy; subst hy
          exact ⟨rfl, fun w hw => by simp at hw; subst hw; rfl⟩
        · intro y hy
          simp only [List.append_assoc, List.mem_append, List.mem_cons, List.not_mem_nil, or_false] at hy
          rcases hy with hy | rfl | rfl
          · obtain ⟨a1, a2, a3⟩ := I.mem y (by simp [hy])
            refine ⟨by simp [a1], a2, fun e he b1 b2 => ?_⟩
            rcases List.mem_append.1 he with he | he
            · exact a3 e he b1 b2
            · exfalso
              simp at he; subst he
              obtain ⟨k, hk, rfl⟩ := List.getElem_of_mem hy
              have hk2 : k + 1 < (o2 ++ [x]).length := by simp; omega
              have hc := (I.chain k hk2).1
              rw [List.getElem_append_left hk] at hc
              have h9 := (I.mem _ (List.getElem_mem hk2)).1
              have := hlt _ h9
              omega
          · refine ⟨by simp [endsAt, mx1], hlt _ mx1, fun e he b1 b2 => ?_⟩
            rcases List.mem_append.1 he with he | he
            · exact mx3 e he b1 (by rw [hx1]; have := hb e (by simp [he]); omega)
            · exfalso; simp at he; subst he; exact Int.lt_irrefl _ b2
          · have := hb d (by simp)
            refine ⟨by simp, by show d < 84006; omega, fun e he b1 _ => ?_⟩
            rcases List.mem_append.1 he with he | he
            · have := hlt e he; simp at b1; omega
            · simp at he; subst he; rfl
        · intro k hk
          simp only [List.append_assoc, List.length_append, List.length_cons, List.length_nil] at hk
          by_cases h1 : k + 1 < o2.length
          · have hk2 : k + 1 < (o2 ++ [x]).length := by simp; omega
            have hc := I.chain k hk2
            rw [List.getElem_append_left (by omega), List.getElem_append_left h1] at hc
            simp only [List.append_assoc]
            rw [List.getElem_append_left (by omega), List.getElem_append_left h1]
            exact hc
          · by_cases h2 : k + 1 = o2.length
            · have hk2 : k + 1 < (o2 ++ [x]).length := by simp; omega
              have hc := I.chain k hk2
              rw [List.getElem_append_left (by omega)] at hc
              have e1 : (o2 ++ [x])[k + 1] = x := by simp [h2]
              rw [e1] at hc
              simp only [List.append_assoc]
              rw [List.getElem_append_left (by omega)]
              have e2 : (o2 ++ ([endsAt x d] ++ [(⟨d, 84006, m d⟩ : Ivl)]))[k + 1]'(by simp; omega) = endsAt x d := by
                rw [List.getElem_append_right (by omega)]
                simp [h2]
              rw [e2]
              exact hc
            · obtain rfl : k = o2.length := by omega
              have e1 : (o2 ++ [endsAt x d] ++ [(⟨d, 84006, m d⟩ : Ivl)])[o2.length]'(by simp) = endsAt x d := by
                simp
              have e2 : (o2 ++ [endsAt x d] ++ [(⟨d, 84006, m d⟩ : Ivl)])[o2.length + 1]'(by simp) = ⟨d, 84006, m d⟩ := by
                simp
              rw [e1, e2]
              exact ⟨rfl, hm⟩
/-- A day on which nothing changes may be left out. -/
theorem ivsF_last {m : Int → Int} : ∀ {D : List Int} {z : Int}, D.getLast? = some z → ∃ o x, ivsF m D = o ++ [x] ∧ x.mth = m z := by
  intro D
  induction D using snoc_indI with
  | h0 => intro z h; simp at h
  | h1 D d ih =>
    intro z hz
    simp at hz; subst hz
    rw [ivsF_snoc]
    by_cases hD : D = []
    · subst hD; exact ⟨[], ⟨d, 84006, m d⟩, rfl, rfl⟩
    · obtain ⟨o, x, ho, hx⟩ := ih (List.getLast?_eq_some_getLast hD)
      rw [ho]
      by_cases hm : x.mth = m d
      · rw [stepI_same hm]; exact ⟨o, x, rfl, hm⟩
      · rw [stepI_new hm]; exact ⟨_, _, rfl, rfl⟩
theorem ivsF_skip {m : Int → Int} {D1 D2 : List Int} {d z : Int} (hz : D1.getLast? = some z) (h : m z = m d) : ivsF m (D1 ++ [d] ++ D2) = ivsF m (D1 ++ D2) := by
  obtain ⟨o, x, ho, hx⟩ := ivsF_last (m := m) hz
  unfold ivsF at *
  rw [List.foldl_append, List.foldl_append, List.foldl_append, ho]
  show List.foldl (stepI m) (stepI m (o ++ [x]) d) D2 = _
  rw [stepI_same (hx.trans h)]
theorem ivsF_congr {m m' : Int → Int} {D : List Int} (h : ∀ d ∈ D, m d = m' d) : ivsF m D = ivsF m' D := by
  induction D using snoc_indI with
  | h0 => rfl
  | h1 D d ih =>
    rw [ivsF_snoc, ivsF_snoc, ih fun e he => h e (by simp [he])]
    unfold stepI
    rw [h d (by simp)]
end Go.Proofs.Ytkpdimbblcmnaaa

/- Intervals of entities: the plain part. -/
namespace Go.Proofs.Ytkpdimbblcmnaaa
open Go.RowKit
set_option linter.unusedSimpArgs false
set_option linter.unusedVariables false

/-- The method of entity e at a date. -/
def mAt (js : List Bool) (l : List Hol) (e : Nat) : Int → Int := fun d => mthE (f0 l d) js e
/-- The days on which the method may change. -/
def sdays (xs : List Int) : List Int := -25567 :: xs.filter fun d => decide (-25567 < d)
def ivR (js : List Bool) (l : List Hol) (xs : List Int) (entity : Int) : List Ivl × Int :=
  if hvalidB (js.length : Int) l = false then ([], 1) else if ¬ (0 ≤ entity ∧ entity < (js.length : Int)) then ([], 2) else if entity = 0 then ([⟨-25568, 84006, 3⟩], 0) else (ivsF (mAt js l entity.toNat) (sdays xs), 0)
theorem ivR_1 {js : List Bool} {l : List Hol} {xs : List Int} {entity : Int} (h : hvalidB (js.length : Int) l = false) : ivR js l xs entity = ([], 1) := by unfold ivR; rw [if_pos h]
theorem ivR_2 {js : List Bool} {l : List Hol} {xs : List Int} {entity : Int} (h : hvalidB (js.length : Int) l = true) (h2 : ¬ (0 ≤ entity ∧ entity < (js.length : Int))) : ivR js l xs entity = ([], 2) := by unfold ivR; rw [if_neg (by simp [h]), if_pos h2]
theorem ivR_3 {js : List Bool} {l : List Hol} {xs : List Int} {entity : Int} (h : hvalidB (js.length : Int) l = true) (h2 : 0 ≤ entity ∧ entity < (js.length : Int)) (h3 : entity = 0) : ivR js l xs entity = ([⟨-25568, 84006, 3⟩], 0) := by unfold ivR; rw [if_neg (by simp [h]), if_neg (fun h => h h2), if_pos h3]
theorem ivR_4 {js : List Bool} {l : List Hol} {xs : List Int} {entity : Int} (h : hvalidB (js.length : Int) l = true) (h2 : 0 ≤ entity ∧ entity < (js.length : Int)) (h3 : entity ≠ 0) : ivR js l xs entity = (ivsF (mAt js l entity.toNat) (sdays xs), 0) := by unfold ivR; rw [if_neg (by simp [h]), if_neg (fun h => h h2), if_neg h3]
theorem sdays_ne (xs : List Int) : sdays xs ≠ [] := by simp [sdays]
theorem sdays_asc {l : List Hol} {xs : List Int} (h : IsDates l xs) : (sdays xs).Pairwise (· < ·) := by
  unfold sdays
  rw [List.pairwise_cons]
  exact ⟨fun a ha => by simpa using (List.mem_filter.1 ha).2, h.1.sublist List.filter_sublist⟩
theorem sdays_bd {n : Int} {l : List Hol} {xs : List Int} (h : IsDates l xs) (hv : hvalidB n l = true) : ∀ d ∈ sdays xs, dateB d = true := by
  intro d hd
  unfold sdays at hd
  rcases List.mem_cons.1 hd with rfl | hd
  · rfl
  · obtain ⟨x, hx, rfl⟩ := (h.2 d).1 (List.mem_filter.1 hd).1
    exact (properB_true ((hvalidB_iff.1 hv).2.1 x hx)).2.2.2.2.2.1
theorem sdays_mem {l : List Hol} {xs : List Int} (h : IsDates l xs) {d : Int} : d ∈ sdays xs ↔ d = -25567 ∨ (-25567 < d ∧ ∃ x ∈ l, x.date = d) := by
  unfold sdays
  rw [List.mem_cons, List.mem_filter, h.2]
  simp only [decide_eq_true_eq]
  constructor
  · rintro (h | ⟨h1, h2⟩)
    · exact .inl h
    · exact .inr ⟨h2, h1⟩
  · rintro (h | ⟨h1, h2⟩)
    · exact .inl h
    · exact .inr ⟨h2, h1⟩
theorem f0_same {l : List Hol} {d d' : Int} (h : ∀ x ∈ l, (x.date ≤ d ↔ x.date ≤ d')) : f0 l d = f0 l d' := by
  funext a b
  unfold f0 atH
  rw [curH_congr (l := ofPair l (a : Int) (b : Int))]
  intro x hx
  exact h x (List.mem_filter.1 hx).1
/-- Between two days of the list nothing changes. -/
theorem mAt_same {js : List Bool} {l : List Hol} {e : Nat} {d d' : Int} (h : d ≤ d') (hn : ∀ x ∈ l, ¬ (d < x.date ∧ x.date ≤ d')) : mAt js l e d = mAt js l e d' := by
  unfold mAt
  rw [f0_same (d := d) (d' := d') fun x hx => ⟨fun h1 => by omega, fun h1 => by have := hn x hx; omega⟩]
theorem ivsF_ok {js : List Bool} {l : List Hol} {xs : List Int} (h : IsDates l xs) (hv : hvalidB (js.length : Int) l = true) (e : Nat) : IvInv (mAt js l e) (sdays xs) (ivsF (mAt js l e) (sdays xs)) :=
  ivInv (sdays_ne xs) (sdays_asc h) fun d hd => (dateB_true.1 (sdays_bd h hv d hd)).2
/-- The method on any day of an interval. -/
theorem ivl_day {js : List Bool} {l : List Hol} {xs : List Int} (h : IsDates l xs) (hv : hvalidB (js.length : Int) l = true) (e : Nat) {x : Ivl} (hx : x ∈ ivsF (mAt js l e) (sdays xs)) {d : Int} (h1 : x.frm ≤ d) (h2 : d < x.to) : mAt js l e d = x.mth := by
  have I := ivsF_ok h hv e
  obtain ⟨m1, m2, m3⟩ := I.mem x hx
  -- the last day of the list that is not later than d
  have key : ∀ (D : List Int), D.Pairwise (· < ·) → x.frm ∈ D → ∃ z ∈ D, z ≤ d ∧ x.frm ≤ z ∧ ∀ y ∈ D, y ≤ d → y ≤ z := by
    intro D
    induction D using snoc_indI with
    | h0 => intro _ hm; simp at hm
    | h1 D y ih =>
      intro hp hm
      rw [List.pairwise_append] at hp
      obtain ⟨hp1, _, hp2⟩ := hp
      by_cases hy : y ≤ d
      · refine ⟨y, by simp, hy, ?_, fun w hw _ => ?_⟩
        · rcases List.mem_append.1 hm with hm | hm
          · exact Int.le_of_lt (hp2 _ hm y (by simp))
          · simp at hm; omega
        · rcases List.mem_append.1 hw with hw | hw
          · exact Int.le_of_lt (hp2 _ hw y (by simp))
          · simp at hw; omega
      · have hm2 : x.frm ∈ D := by
          rcases List.mem_append.1 hm with hm | hm
          · exact hm
          · simp at hm; omega
        obtain ⟨z, a1, a2, a3, a4⟩ := ih hp1 hm2
        refine ⟨z, by simp [a1], a2, a3, fun w hw hwd => ?_⟩
        rcases List.mem_append.1 hw with hw | hw
        · exact a4 w hw hwd
        · simp at hw; omega
  obtain ⟨z, a1, a2, a3, a4⟩ := key _ (sdays_asc h) m1
  rw [← m3 z a1 a3 (by omega)]
  refine (mAt_same a2 fun y hy hh => ?_).symm
  have hfz : -25567 ≤ z := by
    have := dateB_true.1 (sdays_bd h hv z a1)
    exact this.1
  have := a4 y.date ((sdays_mem h).2 (.inr ⟨by omega, y, hy, rfl⟩)) hh.2
  omega
/-- Cut to a time. -/
def cutI (x : Ivl) (a b : Int) : Ivl := ⟨max x.frm a, min x.to b, x.mth⟩
def partB (m a b : Int) (x : Ivl) : Bool := decide (x.mth = m) && decide (max x.frm a < min x.to b)
def partsI (out : List Ivl) (m a b : Int) : List Ivl := (out.filter (partB m a b)).map fun x => cutI x a b
theorem partsI_snoc (out : List Ivl) (x : Ivl) (m a b : Int) : partsI (out ++ [x]) m a b = if partB m a b x = true then partsI out m a b ++ [cutI x a b] else partsI out m a b := by
  unfold partsI
  rw [List.filter_append, List.map_append]
  cases h : partB m a b x with
  | true => simp [h]
  | false => simp [h]
/-- The first interval that holds a day. -/
def curI (out : List Ivl) (d : Int) : Option Ivl := if dateB d = true then out.find? (fun x => decide (x.frm ≤ d) && decide (d < x.to)) else none
def curR (r : List Ivl × Int) (d : Int) : Ivl × Int := if r.2 = 0 then (match curI r.1 d with | some x => (x, 0) | none => (⟨0, 0, 0⟩, 2)) else (⟨0, 0, 0⟩, r.2)
def partR (r : List Ivl × Int) (m a b : Int) : List Ivl × Int := if r.2 = 0 then (partsI r.1 m a b, 0) else ([], r.2)
end Go.Proofs.Ytkpdimbblcmnaaa

/- Intervals of entities: what the laws say of them: the plain part. -/
namespace Go.Proofs.Ytkpdimbblcmnaaa
open Go.RowKit
set_option linter.unusedSimpArgs false
set_option linter.unusedVariables false

theorem max_def' (a b : Int) : max a b = if a ≤ b then b else a := by by_cases h : a ≤ b <;> simp [h] <;> omega
theorem min_def' (a b : Int) : min a b = if a ≤ b then a else b := by by_cases h : a ≤ b <;> simp [h] <;> omega
/-- The days of an interval within a time. -/
def clipD (f t a b : Int) : Int := max 0 (min t b - max f a)
theorem clipD_join {f y t a b : Int} (h1 : f ≤ y) (h2 : y ≤ t) (hab : a ≤ b) : clipD f y a b + clipD y t a b = clipD f t a b := by
  unfold clipD
  omega
def daysI (ps : List Ivl) : Int := (ps.map fun x => x.to - x.frm).sum
theorem daysI_snoc (ps : List Ivl) (x : Ivl) : daysI (ps ++ [x]) = daysI ps + (x.to - x.frm) := by simp [daysI, List.sum_append]
theorem daysI_part (out : List Ivl) (x : Ivl) (m a b : Int) : daysI (partsI (out ++ [x]) m a b) = daysI (partsI out m a b) + (if x.mth = m then clipD x.frm x.to a b else 0) := by
  rw [partsI_snoc]
  by_cases hm : x.mth = m
  · rw [if_pos hm]
    by_cases hc : max x.frm a < min x.to b
    · rw [if_pos (by simp [partB, hm, hc]), daysI_snoc]
      unfold cutI clipD
      simp only
      omega
    · rw [if_neg (by simp [partB, hc])]
      unfold clipD
      omega
  · rw [if_neg (by simp [partB, hm]), if_neg hm]
    omega
/-- The parts of all methods. -/
def daysA (out : List Ivl) (a b : Int) : Int := daysI (partsI out 0 a b) + daysI (partsI out 1 a b) + daysI (partsI out 2 a b) + daysI (partsI out 3 a b)
theorem daysA_snoc (out : List Ivl) (x : Ivl) (a b : Int) (hx : 0 ≤ x.mth ∧ x.mth ≤ 3) : daysA (out ++ [x]) a b = daysA out a b + clipD x.frm x.to a b := by
  unfold daysA
  rw [daysI_part, daysI_part, daysI_part, daysI_part]
  obtain ⟨h0, h1⟩ := hx
  have h : x.mth = 0 ∨ x.mth = 1 ∨ x.mth = 2 ∨ x.mth = 3 := by omega
  rcases h with h | h | h | h <;> simp [h] <;> omega
theorem daysA_chain {a b : Int} (hab : a ≤ b) : ∀ (out : List Ivl) (x : Ivl), (∀ y ∈ out ++ [x], y.frm < y.to ∧ 0 ≤ y.mth ∧ y.mth ≤ 3) → (∀ k (h : k + 1 < (out ++ [x]).length), (out ++ [x])[k].to = ((out ++ [x])[k + 1]).frm) →
    ∀ f, (out ++ [x]).head?.map (·.frm) = some f → f < x.to ∧ daysA (out ++ [x]) a b = clipD f x.to a b := by
  intro out
  induction out using snoc_indI with
  | h0 =>
    intro x hx hc f hf
    simp at hf; subst hf
    have h1 := hx x (by simp)
    rw [daysA_snoc _ _ _ _ h1.2]
    exact ⟨h1.1, by simp [daysA, partsI, daysI]⟩
  | h1 out z ih =>
    intro x hx hc f hf
    have h1 := hx x (by simp)
    have hf2 : (out ++ [z]).head?.map (·.frm) = some f := by
      rw [← hf]
      cases out <;> simp
    obtain ⟨i1, i2⟩ := ih z (fun y hy => hx y (List.mem_append_left _ hy)) (fun k h => by
      have := hc k (by simp at h ⊢; omega)
      rw [List.getElem_append_left (by simp at h ⊢; omega), List.getElem_append_left h] at this
      exact this) f hf2
    have hz : z.to = x.frm := by
      have := hc out.length (by simp)
      have e1 : (out ++ [z] ++ [x])[out.length]'(by simp) = z := by simp
      have e2 : (out ++ [z] ++ [x])[out.length + 1]'(by simp) = x := by simp
      rw [e1, e2] at this
      exact this
    rw [daysA_snoc _ _ _ _ h1.2, i2, hz]
    exact ⟨by omega, clipD_join (by omega) (by omega) hab⟩
theorem head_map {out : List Ivl} (h : out ≠ []) : ∃ x o, out = x :: o := by cases out with | nil => exact absurd rfl h | cons x o => exact ⟨x, o, rfl⟩
/-- All days are in the parts. -/
theorem days_all {out : List Ivl} {f a b : Int} (hne : out ≠ []) (hm : ∀ y ∈ out, y.frm < y.to ∧ 0 ≤ y.mth ∧ y.mth ≤ 3) (hc : ∀ k (h : k + 1 < out.length), out[k].to = (out[k + 1]).frm)
    (hf : out.head?.map (·.frm) = some f) (hl : ∀ x, out.getLast? = some x → x.to = 84006) (h1 : f ≤ a) (hab : a ≤ b) (h2 : b ≤ 84006) : daysA out a b = b - a := by
  obtain ⟨o, x, rfl⟩ : ∃ o x, out = o ++ [x] := ⟨out.dropLast, out.getLast hne, (List.dropLast_concat_getLast hne).symm⟩
  obtain ⟨h3, h4⟩ := daysA_chain hab o x hm hc f hf
  rw [h4, hl x (by simp)]
  unfold clipD
  omega
theorem parts_mem {out : List Ivl} {m a b : Int} {p : Ivl} (h : p ∈ partsI out m a b) : p.mth = m ∧ a ≤ p.frm ∧ p.to ≤ b ∧ p.frm < p.to := by
  obtain ⟨x, hx, rfl⟩ := List.mem_map.1 h
  obtain ⟨h1, h2⟩ := List.mem_filter.1 hx
  simp only [partB, Bool.and_eq_true, decide_eq_true_eq] at h2
  refine ⟨h2.1, ?_, ?_, h2.2⟩
  · show a ≤ max x.frm a; omega
  · show min x.to b ≤ b; omega
theorem mAt_rng (js : List Bool) (l : List Hol) (e : Nat) (d : Int) : 0 ≤ mAt js l e d ∧ mAt js l e d ≤ 3 := mthE_rng _ _ _
/-- Every valid day is in an interval. -/
theorem cur_some {js : List Bool} {l : List Hol} {xs : List Int} (h : IsDates l xs) (hv : hvalidB (js.length : Int) l = true) (e : Nat) {d : Int} (hd : dateB d = true) : ∃ x, curI (ivsF (mAt js l e) (sdays xs)) d = some x ∧ x ∈ ivsF (mAt js l e) (sdays xs) ∧ x.frm ≤ d ∧ d < x.to := by
  have I := ivsF_ok h hv e
  obtain ⟨hd1, hd2⟩ := dateB_true.1 hd
  unfold curI
  rw [if_pos hd]
  cases hf : (ivsF (mAt js l e) (sdays xs)).find? (fun x => decide (x.frm ≤ d) && decide (d < x.to)) with
  | some x =>
    have h1 := List.find?_some hf
    simp only [Bool.and_eq_true, decide_eq_true_eq] at h1
    exact ⟨x, rfl, List.mem_of_find?_eq_some hf, h1.1, h1.2⟩
  | none =>
    exfalso
    have hno : ∀ x ∈ ivsF (mAt js l e) (sdays xs), ¬ (x.frm ≤ d ∧ d < x.to) := fun x hx hh => by
      have := List.find?_eq_none.1 hf x hx
      simp at this
      have := this hh.1
      omega
    have key : ∀ k (hk : k < (ivsF (mAt js l e) (sdays xs)).length), ((ivsF (mAt js l e) (sdays xs))[k]).frm ≤ d := by
      intro k
      induction k with
      | zero =>
        intro hk
        have := I.first _ (by rw [List.head?_eq_getElem?, List.getElem?_eq_getElem hk])
        have h0 : (sdays xs).head? = some (-25567) := rfl
        rw [h0] at this
        injection this with this
        omega
      | succ k ih =>
        intro hk
        have h1 := ih (by omega)
        have h2 := hno _ (List.getElem_mem (by omega : k < (ivsF (mAt js l e) (sdays xs)).length))
        have h3 := (I.chain k hk).1
        omega
    obtain ⟨x, hx⟩ : ∃ x, (ivsF (mAt js l e) (sdays xs)).getLast? = some x := ⟨_, List.getLast?_eq_some_getLast I.ne⟩
    have h1 := (I.last x hx).1
    have h2 : x ∈ ivsF (mAt js l e) (sdays xs) := List.mem_of_getLast? hx
    obtain ⟨k, hk, rfl⟩ := List.getElem_of_mem h2
    have h3 := key k hk
    exact hno _ (List.getElem_mem hk) ⟨h3, by omega⟩
/-- The day ahead of an interval. -/
theorem ivl_ahead {js : List Bool} {l : List Hol} {xs : List Int} (h : IsDates l xs) (hv : hvalidB (js.length : Int) l = true) (e : Nat) {x : Ivl} (hx : x ∈ ivsF (mAt js l e) (sdays xs)) (hf : x.frm ≠ -25567) : -25567 < x.frm ∧ mAt js l e (x.frm - 1) ≠ x.mth := by
  have I := ivsF_ok h hv e
  obtain ⟨k, hk, rfl⟩ := List.getElem_of_mem hx
  cases k with
  | zero =>
    have := I.first _ (by rw [List.head?_eq_getElem?, List.getElem?_eq_getElem hk])
    have h0 : (sdays xs).head? = some (-25567) := rfl
    rw [h0] at this
    injection this with this
    exact absurd this.symm hf
  | succ k =>
    obtain ⟨h1, h2⟩ := I.chain k hk
    obtain ⟨m1, m2, _⟩ := I.mem _ (List.getElem_mem (by omega : k < (ivsF (mAt js l e) (sdays xs)).length))
    have h3 := (dateB_true.1 (sdays_bd h hv _ m1)).1
    rw [← h1]
    refine ⟨by omega, ?_⟩
    rw [ivl_day h hv e (List.getElem_mem (by omega : k < (ivsF (mAt js l e) (sdays xs)).length)) (by omega) (by omega)]
    exact h2
/-- A repeated share. -/
theorem putH_repeat {n : Int} {l : List Hol} {h : Hol} (hv : hvalidB n l = true) (hv2 : hvalidB n (putH l h) = true) (hs : h.share = atH l h.holder h.entity h.date) (hh e d : Int) : atH (putH l h) hh e d = atH l hh e d := by
  by_cases hp : h.holder = hh ∧ h.entity = e ∧ h.date ≤ d
  · obtain ⟨rfl, rfl, hd⟩ := hp
    -- the holding that counts at d in l
    have hm : ∀ y, y ∈ putH l h → y = h ∨ y ∈ l := by
      intro y hy
      unfold putH at hy
      split at hy
      · rcases List.mem_append.1 hy with hy | hy
        · exact .inr hy
        · simp at hy; exact .inl hy
      · rcases List.mem_or_eq_of_mem_set hy with hy | hy
        · exact .inr hy
        · exact .inl hy
    have hk : ∀ y ∈ l, sameH y h = false → y ∈ putH l h := by
      intro y hy hf
      unfold putH
      cases hi : idxH l h with
      | none => show y ∈ l ++ [h]; simp [hy]
      | some i =>
        show y ∈ l.set i h
        obtain ⟨hl, hsm⟩ := idxH_spec hi
        obtain ⟨k, hk, rfl⟩ := List.getElem_of_mem hy
        by_cases hki : k = i
        · subst hki; rw [hsm] at hf; cases hf
        · have : (l.set i h)[k]'(by simpa using hk) = l[k] := by rw [List.getElem_set]; rw [if_neg (fun e => hki e.symm)]
          rw [← this]; exact List.getElem_mem _
    unfold atH at hs ⊢
    -- what counts in the new list
    cases hc : curH d (ofPair (putH l h) h.holder h.entity) with
    | none =>
      have := curH_none hc h (List.mem_filter.2 ⟨putH_mem l h, by simp [pairB]⟩)
      exact absurd hd this
    | some m =>
      obtain ⟨a1, a2⟩ := curH_max hc
      obtain ⟨b1, b2⟩ := List.mem_filter.1 (curH_mem hc)
      simp only [pairB, Bool.and_eq_true, beq_iff_eq] at b2
      have a3 := a2 h (List.mem_filter.2 ⟨putH_mem l h, by simp [pairB]⟩) hd
      by_cases hmd : m.date = h.date
      · have hmh : m = h := valid_uniq hv2 b1 (putH_mem l h) (by simp [sameH, b2.1, b2.2, hmd])
        subst hmh
        show m.share = _
        rw [hs]
        congr 1
        refine (curH_congr fun y hy => ?_)
        obtain ⟨c1, c2⟩ := List.mem_filter.1 hy
        simp only [pairB, Bool.and_eq_true, beq_iff_eq] at c2
        constructor
        · intro h1; omega
        · intro h1
          cases hf : sameH y m with
          | true => simp [sameH] at hf; omega
          | false => exact a2 y (List.mem_filter.2 ⟨hk y c1 hf, by simp [pairB, c2.1, c2.2]⟩) h1
      · have hml : m ∈ l := by
          rcases hm m b1 with h1 | h1
          · subst h1; exact absurd rfl hmd
          · exact h1
        cases hc2 : curH d (ofPair l h.holder h.entity) with
        | none =>
          have := curH_none hc2 m (List.mem_filter.2 ⟨hml, by simp [pairB, b2.1, b2.2]⟩)
          exact absurd a1 this
        | some m2 =>
          obtain ⟨d1, d2⟩ := curH_max hc2
          obtain ⟨e1, e2⟩ := List.mem_filter.1 (curH_mem hc2)
          simp only [pairB, Bool.and_eq_true, beq_iff_eq] at e2
          have d3 := d2 m (List.mem_filter.2 ⟨hml, by simp [pairB, b2.1, b2.2]⟩) a1
          have d4 : m2.date ≤ m.date := by
            cases hf : sameH m2 h with
            | true => simp [sameH] at hf; omega
            | false => exact a2 m2 (List.mem_filter.2 ⟨hk m2 e1 hf, by simp [pairB, e2.1, e2.2]⟩) d1
          have : m = m2 := valid_uniq hv hml e1 (by simp [sameH, b2.1, b2.2, e2.1, e2.2]; omega)
          rw [this]
  · exact atH_other hp
theorem putH_dates {l : List Hol} {h : Hol} (d : Int) : (∃ x ∈ putH l h, x.date = d) ↔ d = h.date ∨ ∃ x ∈ l, x.date = d := by
  unfold putH
  cases hi : idxH l h with
  | none =>
    show (∃ x ∈ l ++ [h], x.date = d) ↔ _
    constructor
    · rintro ⟨x, hx, rfl⟩
      rcases List.mem_append.1 hx with hx | hx
      · exact .inr ⟨x, hx, rfl⟩
      · simp at hx; subst hx; exact .inl rfl
    · rintro (rfl | ⟨x, hx, rfl⟩)
      · exact ⟨h, by simp, rfl⟩
      · exact ⟨x, by simp [hx], rfl⟩
  | some i =>
    obtain ⟨hl, hsm⟩ := idxH_spec hi
    simp only [sameH, Bool.and_eq_true, beq_iff_eq] at hsm
    show (∃ x ∈ l.set i h, x.date = d) ↔ _
    constructor
    · rintro ⟨x, hx, rfl⟩
      rcases List.mem_or_eq_of_mem_set hx with hx | hx
      · exact .inr ⟨x, hx, rfl⟩
      · subst hx; exact .inl rfl
    · rintro (rfl | ⟨x, hx, rfl⟩)
      · exact ⟨h, List.mem_set hl h, rfl⟩
      · obtain ⟨k, hk, rfl⟩ := List.getElem_of_mem hx
        by_cases hki : k = i
        · subst hki; exact ⟨h, List.mem_set hl h, hsm.2.symm⟩
        · have : (l.set i h)[k]'(by simpa using hk) = l[k] := by rw [List.getElem_set]; rw [if_neg (fun e => hki e.symm)]
          exact ⟨l[k], by rw [← this]; exact List.getElem_mem _, rfl⟩
/-- It changes no interval. -/
theorem ivs_repeat {js : List Bool} {l : List Hol} {h : Hol} {xs ys : List Int} (hx : IsDates l xs) (hy : IsDates (putH l h) ys) (hv : hvalidB (js.length : Int) l = true) (hv2 : hvalidB (js.length : Int) (putH l h) = true) (hs : h.share = atH l h.holder h.entity h.date) (e : Nat) :
    ivsF (mAt js (putH l h) e) (sdays ys) = ivsF (mAt js l e) (sdays xs) := by
  have hm : mAt js (putH l h) e = mAt js l e := by
    funext d
    unfold mAt
    have : f0 (putH l h) d = f0 l d := by funext a b; exact putH_repeat hv hv2 hs _ _ _
    rw [this]
  rw [hm]
  have ay := sdays_asc hy
  have ax := sdays_asc hx
  by_cases hin : h.date ∈ sdays xs ∨ ¬ -25567 < h.date
  · have : sdays ys = sdays xs := Asc.eq ay ax fun d => by
      rw [sdays_mem hy, sdays_mem hx, putH_dates]
      constructor
      · rintro (h1 | ⟨h1, h2 | h2⟩)
        · exact .inl h1
        · subst h2
          rcases hin with h3 | h3
          · exact (sdays_mem hx).1 h3
          · exact absurd h1 h3
        · exact .inr ⟨h1, h2⟩
      · rintro (h1 | ⟨h1, h2⟩)
        · exact .inl h1
        · exact .inr ⟨h1, .inr h2⟩
    rw [this]
  · have hni : h.date ∉ sdays xs := fun h1 => hin (.inl h1)
    have hgt : -25567 < h.date := by
      rcases Int.lt_or_le (-25567) h.date with h1 | h1
      · exact h1
      · exact absurd (.inr (by omega)) hin
    have hsplit : sdays ys = (sdays xs).filter (fun d => decide (d < h.date)) ++ [h.date] ++ (sdays xs).filter (fun d => !decide (d < h.date)) := by
      refine Asc.eq ay ?_ fun d => ?_
      · unfold Asc
        rw [List.append_assoc, List.pairwise_append]
        refine ⟨ax.sublist List.filter_sublist, ?_, ?_⟩
        · rw [List.singleton_append, List.pairwise_cons]
          refine ⟨fun a ha => ?_, ax.sublist List.filter_sublist⟩
          obtain ⟨h1, h2⟩ := List.mem_filter.1 ha
          have h3 : ¬ a < h.date := by simpa using h2
          have h4 : a ≠ h.date := fun e => hni (e ▸ h1)
          omega
        · intro a ha b hb
          have h2 := (List.mem_filter.1 ha).2
          rw [List.singleton_append, List.mem_cons] at hb
          rcases hb with rfl | hb
          · simpa using h2
          · have h3 : ¬ b < h.date := by simpa using (List.mem_filter.1 hb).2
            have h4 : a < h.date := by simpa using h2
            omega
      · rw [sdays_mem hy, putH_dates]
        simp only [List.mem_append, List.mem_filter, List.mem_singleton, sdays_mem hx]
        constructor
        · rintro (h1 | ⟨h1, h2 | h2⟩)
          · subst h1; exact .inl (.inl ⟨.inl rfl, by simpa using hgt⟩)
          · exact .inl (.inr h2)
          · by_cases h3 : d < h.date
            · exact .inl (.inl ⟨.inr ⟨h1, h2⟩, by simpa using h3⟩)
            · exact .inr ⟨.inr ⟨h1, h2⟩, by simp [h3]⟩
        · rintro ((⟨h1, _⟩ | h1) | ⟨h1, _⟩)
          · rcases h1 with h1 | ⟨h1, h2⟩
            · exact .inl h1
            · exact .inr ⟨h1, .inr h2⟩
          · subst h1; exact .inr ⟨hgt, .inl rfl⟩
          · rcases h1 with h1 | ⟨h1, h2⟩
            · exact .inl h1
            · exact .inr ⟨h1, .inr h2⟩
    have hwhole : sdays xs = (sdays xs).filter (fun d => decide (d < h.date)) ++ (sdays xs).filter (fun d => !decide (d < h.date)) := by
      refine Asc.eq ax ?_ fun d => ?_
      · unfold Asc
        rw [List.pairwise_append]
        refine ⟨ax.sublist List.filter_sublist, ax.sublist List.filter_sublist, fun a ha b hb => ?_⟩
        have h1 : a < h.date := by simpa using (List.mem_filter.1 ha).2
        have h2 : ¬ b < h.date := by simpa using (List.mem_filter.1 hb).2
        omega
      · simp only [List.mem_append, List.mem_filter]
        by_cases h3 : d < h.date <;> simp [h3]
    have hne : (sdays xs).filter (fun d => decide (d < h.date)) ≠ [] := by
      have : (-25567 : Int) ∈ (sdays xs).filter (fun d => decide (d < h.date)) := List.mem_filter.2 ⟨by simp [sdays], by simpa using hgt⟩
      intro e0
      rw [e0] at this; simp at this
    obtain ⟨z, hz⟩ : ∃ z, ((sdays xs).filter (fun d => decide (d < h.date))).getLast? = some z := ⟨_, List.getLast?_eq_some_getLast hne⟩
    rw [hsplit, ivsF_skip hz, ← hwhole]
    obtain ⟨z1, z2⟩ := List.mem_filter.1 (List.mem_of_getLast? hz)
    have z3 : z < h.date := by simpa using z2
    refine mAt_same (by omega) fun y hy hh => ?_
    have z0 : -25567 ≤ z := (dateB_true.1 (sdays_bd hx hv z z1)).1
    have y1 : y.date ∈ sdays xs := (sdays_mem hx).2 (.inr ⟨by omega, y, hy, rfl⟩)
    have y2 : y.date ≠ h.date := fun e => hni (e ▸ y1)
    have y3 : y.date ∈ (sdays xs).filter (fun d => decide (d < h.date)) := List.mem_filter.2 ⟨y1, by simp; omega⟩
    -- z is the last one
    have hlast : ∀ (D : List Int), D.Pairwise (· < ·) → D.getLast? = some z → ∀ w ∈ D, w ≤ z := by
      intro D hp hg w hw
      obtain ⟨D2, rfl⟩ : ∃ D2, D = D2 ++ [z] := by
        have hD : D ≠ [] := by intro e; subst e; simp at hg
        refine ⟨D.dropLast, ?_⟩
        have := List.dropLast_concat_getLast hD
        rw [List.getLast?_eq_some_getLast hD] at hg
        simp at hg
        rw [← hg]; exact this.symm
      rw [List.pairwise_append] at hp
      rcases List.mem_append.1 hw with hw | hw
      · exact Int.le_of_lt (hp.2.2 w hw z (by simp))
      · simp at hw; omega
    have := hlast _ (ax.sublist List.filter_sublist) hz _ y3
    omega
end Go.Proofs.Ytkpdimbblcmnaaa

