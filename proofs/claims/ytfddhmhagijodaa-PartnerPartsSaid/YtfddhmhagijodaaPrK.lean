/- Pairs as the keys of a map. -/
import Derived.Test.YtfddhmhagijodaaPrEq
import Derived.Test.YtfddhmhagijodaaKeyR
namespace Go.Proofs.Ytfddhmhagijodaa
open Go.RowKit Go.Maps
set_option linter.unusedSimpArgs false

theorem cPr : Try.prog.cellsOf 66 = 2 := by kernel_rfl
theorem cI1 : Try.prog.cellsOf 3 = 1 := by kernel_rfl
theorem keyLits_pr {a b : Int} (ha : I64 a) (hb : I64 b) : Try.prog.keyLits (Try.prog.types.size + 1) 66 [.int .i64 a, .int .i64 b] = some [.int .i64 a, .int .i64 b] := by
  have hs : Try.prog.types.size = (Try.prog.types.size - 1) + 1 := by
    have : 0 < Try.prog.types.size := of_decide_eq_true (by kernel_rfl)
    omega
  have hi : ∀ d x, I64 x → Try.prog.keyLits (d + 1) 3 [.int .i64 x] = some [.int .i64 x] := fun d x h => keyLits_int Try.underlying3 h
  unfold Program.keyLits
  rw [Try.underlying66, hs]
  simp [cPr, cI1, hi, ha, hb, List.range_succ]
theorem keyOf_pr {a b : Int} (ha : I64 a) (hb : I64 b) : keyOf Try.prog 66 (.agg #[.int .i64 a, .int .i64 b]) = some (.string (keyBytes [.int .i64 a, .int .i64 b])) := by
  unfold keyOf
  rw [Try.underlying66]
  have h1 : Try.prog.keyType 66 = true := by kernel_rfl
  have h2 : (Value.agg #[.int .i64 a, .int .i64 b]).formed Try.prog 66 = true := by
    simp [Value.formed, Try.underlying66, cPr]
  simp only [h1, h2, Bool.and_self, if_true]
  show (Try.prog.keyLits (Try.prog.types.size + 1) 66 [.int .i64 a, .int .i64 b]).map _ = _
  rw [keyLits_pr ha hb]
  rfl
theorem prKeyed : Keyed Try.prog 66 := Keyed.of_law (deep_law_laid laidOutK (m := 2) (by omega) (of_decide_eq_true (by kernel_rfl)) (by kernel_rfl) (by rw [Try.underlying66]))
def prLit (l : Pr) : Lit := .string (keyBytes [.int .i64 l.a, .int .i64 l.b])
def prK : KeyEnc Try.prog 66 Pr where
  enc l := .agg #[.int .i64 l.a, .int .i64 l.b]
  lit := prLit
  ok := Pr.Ok
  keyed := prKeyed
  key l h := keyOf_pr h.1 h.2
  inj a b _ _ h := by
    obtain ⟨a0, a1⟩ := a
    obtain ⟨b0, b1⟩ := b
    simpa using h
set_option maxRecDepth 100000 in
theorem keyLits_int_inv {d : Nat} {v : Value} {ls : List Lit} (h : Try.prog.keyLits (d + 1) 3 [v] = some ls) : ∃ x, v = .int .i64 x ∧ I64 x := by
  unfold Program.keyLits at h
  rw [Try.underlying3] at h
  cases v with
  | int q n =>
    simp only at h
    split at h
    · rename_i hc
      obtain ⟨rfl, hw⟩ := hc
      exact ⟨n, rfl, wf64.1 hw⟩
    · cases h
  | _ => simp at h
set_option maxRecDepth 100000 in
theorem keyOf_pr_inv {v : Value} {kl : Lit} (h : keyOf Try.prog 66 v = some kl) : ∃ p : Pr, v = .agg #[.int .i64 p.a, .int .i64 p.b] ∧ p.Ok ∧ kl = prLit p := by
  have h0 := h
  unfold keyOf at h
  rw [Try.underlying66] at h
  simp only at h
  split at h
  · rename_i hc
    rw [Bool.and_eq_true] at hc
    cases v with
    | agg cs =>
      obtain ⟨cs⟩ := cs
      have hl : cs.length = 2 := by
        have := hc.2
        simpa [Value.formed, Try.underlying66, cPr] using this
      match cs, hl with
      | [v0, v1], _ =>
        have hk : ∃ ls, Try.prog.keyLits (Try.prog.types.size + 1) 66 [v0, v1] = some ls := by
          have h' : (Try.prog.keyLits (Try.prog.types.size + 1) 66 [v0, v1]).map (fun ls => Lit.string (keyBytes ls)) = some kl := h
          cases hq : Try.prog.keyLits (Try.prog.types.size + 1) 66 [v0, v1] with
          | none => rw [hq] at h'; cases h'
          | some ls => exact ⟨ls, rfl⟩
        obtain ⟨ls, hk⟩ := hk
        have hs : Try.prog.types.size = (Try.prog.types.size - 1) + 1 := by
          have : 0 < Try.prog.types.size := of_decide_eq_true (by kernel_rfl)
          omega
        unfold Program.keyLits at hk
        rw [Try.underlying66, hs] at hk
        simp only [cPr, cI1, List.length_cons, List.length_nil, if_true, Option.map_eq_some_iff] at hk
        obtain ⟨lss, hm, _⟩ := hk
        have hm2 : ((List.range 2).mapM fun i => Try.prog.keyLits ((Try.prog.types.size - 1) + 1) 3 (([v0, v1].drop (i * 1)).take 1)) = some lss := hm
        rw [show List.range 2 = [0, 1] from rfl] at hm2
        simp only [List.mapM_cons, List.mapM_nil, Nat.zero_mul, Nat.one_mul, List.drop_zero, List.drop_succ_cons, List.take_succ_cons, List.take_zero, Option.bind_eq_bind, Option.bind_eq_some_iff] at hm2
        obtain ⟨l0, e0, l1, ⟨l2, e2, _⟩, _⟩ := hm2
        obtain ⟨x, rfl, hx⟩ := keyLits_int_inv e0
        obtain ⟨y, rfl, hy⟩ := keyLits_int_inv e2
        rw [keyOf_pr hx hy] at h0
        exact ⟨⟨x, y⟩, rfl, ⟨hx, hy⟩, (Option.some.inj h0).symm⟩
    | _ => simp [Value.formed, Try.underlying66] at hc
  · cases h
/-- A set of pairs as a map to true. -/
def setP (L : List Pr) : Pr → Option Value := fun r => if r ∈ L then some (.bool true) else none
theorem setP_some (L : List Pr) (r : Pr) : (setP L r).isSome = true ↔ r ∈ L := by unfold setP; split <;> simp [*]
theorem setP_snoc (L : List Pr) (r : Pr) : setP (L ++ [r]) r = some (.bool true) ∧ ∀ d, d ≠ r → setP (L ++ [r]) d = setP L d := by
  refine ⟨?_, fun d hd => ?_⟩
  · unfold setP; rw [if_pos (by simp)]
  · unfold setP
    have : (d ∈ L ++ [r]) ↔ d ∈ L := by simp [hd]
    simp only [this]
/-- What has come of the keys of a map. -/
structure CollP (D : DataW Value) (left : Lit → Bool) (ss : List Pr) : Prop where
  nodup : ss.Nodup
  ok : ∀ x ∈ ss, x.Ok
  has : ∀ kl, left kl = true → Maps.has D kl = true
  iff : ∀ x : Pr, x.Ok → (x ∈ ss ↔ Maps.has D (prLit x) = true ∧ left (prLit x) = false)
theorem CollP.start (D : DataW Value) : CollP D (Maps.has D) [] :=
  ⟨List.Pairwise.nil, by simp, fun _ h => h, fun x _ => by simp⟩
theorem prLit_inj {x y : Pr} (hx : x.Ok) (hy : y.Ok) (h : prLit x = prLit y) : x = y := KeyEnc.lit_inj prK (a := x) (b := y) hx hy h
theorem sameKey_pr {x y : Pr} : (prLit x).sameKey (prLit y) = true ↔ prLit x = prLit y := by
  unfold prLit Lit.sameKey
  simp only [Lit.string.injEq, beq_iff_eq]
theorem CollP.step {D : DataW Value} {left : Lit → Bool} {ss : List Pr} (h : CollP D left ss) {x : Pr} (hx : x.Ok) (hl : left (prLit x) = true) : CollP D (fun z => left z && !z.sameKey (prLit x)) (ss ++ [x]) := by
  have hnx : x ∉ ss := fun hm => by have := ((h.iff x hx).1 hm).2; rw [hl] at this; cases this
  refine ⟨?_, ?_, ?_, ?_⟩
  · rw [List.nodup_append]
    exact ⟨h.nodup, by simp, fun a ha b hb e => by rw [List.mem_singleton] at hb; subst hb; subst e; exact hnx ha⟩
  · intro y hy
    rcases List.mem_append.1 hy with h1 | h1
    · exact h.ok y h1
    · rw [List.mem_singleton.1 h1]; exact hx
  · intro kl hk
    rw [Bool.and_eq_true] at hk
    exact h.has kl hk.1
  · intro y hy
    rw [List.mem_append, List.mem_singleton, h.iff y hy]
    by_cases e : y = x
    · subst e
      have h2 : (prLit y).sameKey (prLit y) = true := sameKey_pr.2 rfl
      simp [h.has _ hl, h2]
    · have h2 : (prLit y).sameKey (prLit x) = false := by
        rw [Bool.eq_false_iff]
        exact fun e2 => e (prLit_inj hy hx (sameKey_pr.1 e2))
      simp [e, h2]
theorem CollP.done {D : DataW Value} {left : Lit → Bool} {ss : List Pr} (h : CollP D left ss) (h0 : ∀ kl, left kl = false) : ss.Nodup ∧ (∀ x ∈ ss, x.Ok) ∧ ∀ x : Pr, x.Ok → (x ∈ ss ↔ Maps.has D (prLit x) = true) :=
  ⟨h.nodup, h.ok, fun x hx => by rw [h.iff x hx, h0]; simp⟩
end Go.Proofs.Ytfddhmhagijodaa
