/- Maps that a call makes, as functions from keys to values. No program. -/
import Derived.Test.YtfddhmhagijodaaApp2
import Derived.Maps.OwnOps
import Derived.Maps.OwnSet
import Derived.Maps.Views
namespace Go.Proofs.Ytfddhmhagijodaa
open Go.RowKit Go.Maps

/-- How a kind of keys is written: as a value, as a datum; which of them can be keys. -/
structure KeyEnc (P : Program) (k : TypeId) (α : Type) where
  enc : α → Value
  lit : α → Lit
  ok : α → Prop
  keyed : Keyed P k
  key : ∀ a, ok a → keyOf P k (enc a) = some (lit a)
  inj : ∀ a b, ok a → ok b → enc a = enc b → a = b
theorem KeyEnc.lit_inj {P : Program} {k : TypeId} {α : Type} (K : KeyEnc P k α) {a b : α} (ha : K.ok a) (hb : K.ok b) (h : K.lit a = K.lit b) : a = b :=
  K.inj a b ha hb (K.keyed.inj (K.key a ha) (h ▸ K.key b hb))
/-- Every element is held as it is. -/
def hold (v : Value) : Option (DataW Value × List MemPlace) := some (.held v, [])

/-- Block b is a map of at most n entries that reads as f. -/
def VMap {P : Program} {k : TypeId} {α : Type} (K : KeyEnc P k α) (w : World) (b n : Nat) (f : α → Option Value) : Prop :=
  ∃ D : DataW Value, w.ownsMap P k hold b n D ∧ ∀ a, K.ok a → has D (K.lit a) = (f a).isSome ∧ ∀ zd, D.atKey (K.lit a) zd = ((f a).map DataW.held).getD zd
variable {P : Program} {k : TypeId} {α : Type} {K : KeyEnc P k α} {w : World} {b n : Nat} {f : α → Option Value}

theorem VMap.made (K : KeyEnc P k α) (w : World) : VMap K (w.alloc (.map #[] 0)) w.heap.size 0 (fun _ => none) :=
  ⟨.map [], World.ownsMap_made w P k hold, fun _ _ => ⟨rfl, fun _ => rfl⟩⟩
theorem VMap.lt (h : VMap K w b n f) : b < w.heap.size := by obtain ⟨D, h, _⟩ := h; exact h.lt
theorem VMap.alloc (h : VMap K w b n f) (o : Obj) : VMap K (w.alloc o) b n f := by obtain ⟨D, h, h2⟩ := h; exact ⟨D, h.alloc o, h2⟩
theorem VMap.drewN (h : VMap K w b n f) (q : Nat) : VMap K (w.drewN q) b n f := by obtain ⟨D, h, h2⟩ := h; exact ⟨D, h, h2⟩
theorem VMap.kept {w' : World} {row : Option Nat} (h : VMap K w b n f) (hg : w.grownBy w' row) (hne : some b ≠ row) : VMap K w' b n f := by obtain ⟨D, h, h2⟩ := h; exact ⟨D, h.kept hg hne, h2⟩
theorem VMap.keeps {w' : World} (h : VMap K w b n f) (hk : Keeps w w') : VMap K w' b n f := by
  obtain ⟨D, ⟨es, clock, hb, F, hs, hD⟩, h2⟩ := h
  exact ⟨D, ⟨es, clock, (hk.block b (Array.getElem?_eq_some_iff.1 hb).1).trans hb, F, hs, hD⟩, h2⟩
theorem VMap.mono (h : VMap K w b n f) {n' : Nat} (hn : n ≤ n') : VMap K w b n' f := by obtain ⟨D, h, h2⟩ := h; exact ⟨D, h.mono hn, h2⟩
theorem VMap.congr (h : VMap K w b n f) {g : α → Option Value} (e : ∀ a, K.ok a → f a = g a) : VMap K w b n g := by
  obtain ⟨D, h, h2⟩ := h
  exact ⟨D, h, fun a ha => by rw [← e a ha]; exact h2 a ha⟩

/-- 'm[x]'. -/
theorem VMap.look {t e : TypeId} (h : VMap K w b n f) (ht : P.underlying t = some (.map k e)) {z : Value} (hz : ∀ w, (zeroValue e).run P w = .ok z w) {a : α} (ha : K.ok a) :
    ∀ w', w' = w → (Instr.lookup t (.map (some b)) (K.enc a) false).run P w' = .ok ((f a).getD z) w' := by
  rintro w' rfl
  obtain ⟨D, ⟨es, clock, hb, F, _, rfl⟩, h2⟩ := h
  obtain ⟨h3, h4⟩ := h2 a ha
  rcases Maps.fit_look false K.keyed ht (hz w') hb F (K.key a ha) with ⟨hrun, _, hat⟩ | ⟨e0, y, _, _, hrun, hRv, hat, _⟩
  · have hn : f a = none := by
      cases hf : f a with
      | none => rfl
      | some u =>
        rw [hf] at h4
        have e1 := h4 DataW.nil
        rw [hat] at e1
        cases e1
    rw [hn]; simpa using hrun
  · have e1 := hat DataW.nil
    cases hRv
    rw [h4] at e1
    cases hf : f a with
    | none => rw [hf] at e1; cases e1
    | some u =>
      rw [hf] at e1
      simp only [Option.map_some, Option.getD_some, DataW.held.injEq] at e1
      subst e1
      simpa using hrun
/-- 'v, ok := m[x]'. -/
theorem VMap.lookOk {t e : TypeId} (h : VMap K w b n f) (ht : P.underlying t = some (.map k e)) {z : Value} (hz : ∀ w, (zeroValue e).run P w = .ok z w) {a : α} (ha : K.ok a) :
    ∀ w', w' = w → (Instr.lookup t (.map (some b)) (K.enc a) true).run P w' = .ok (.tuple #[(f a).getD z, .bool (f a).isSome]) w' := by
  rintro w' rfl
  obtain ⟨D, ⟨es, clock, hb, F, _, rfl⟩, h2⟩ := h
  obtain ⟨h3, h4⟩ := h2 a ha
  rcases Maps.fit_look true K.keyed ht (hz w') hb F (K.key a ha) with ⟨hrun, _, hat⟩ | ⟨e0, y, _, _, hrun, hRv, hat, _⟩
  · have hn : f a = none := by
      cases hf : f a with
      | none => rfl
      | some u =>
        rw [hf] at h4
        have e1 := h4 DataW.nil
        rw [hat] at e1
        cases e1
    rw [hn]; simpa using hrun
  · have e1 := hat DataW.nil
    cases hRv
    rw [h4] at e1
    cases hf : f a with
    | none => rw [hf] at e1; cases e1
    | some u =>
      rw [hf] at e1
      simp only [Option.map_some, Option.getD_some, DataW.held.injEq] at e1
      subst e1
      simpa using hrun
/-- 'm[x] = v'. -/
theorem VMap.store {t e : TypeId} (h : VMap K w b n f) (ht : P.underlying t = some (.map k e)) (hn : n < maxLen) {a : α} (ha : K.ok a) (v : Value) {g : α → Option Value} (hg1 : g a = some v) (hg2 : ∀ c, K.ok c → c ≠ a → g c = f c) :
    ∃ w', (Instr.mapUpdate t (.map (some b)) (K.enc a) v).run P w = .ok () w' ∧ VMap K w' b (n + 1) g ∧ w.grownBy w' (some b) := by
  obtain ⟨D, h, h2⟩ := h
  obtain ⟨w', hr, ho, hgr⟩ := h.update K.keyed ht hn (K.key a ha) (show hold v = some (.held v, []) from rfl)
  have hM : IsMap D := by obtain ⟨es, clock, _, _, _, rfl⟩ := h; exact ⟨_, rfl⟩
  have hK := K.keyed.key (K.key a ha)
  refine ⟨w', hr, ⟨_, ho, fun c hc => ?_⟩, hgr⟩
  obtain ⟨h3, h4⟩ := h2 c hc
  by_cases e : c = a
  · subst e
    rw [hg1]
    exact ⟨has_put_same hM hK _, fun zd => atKey_put_same hM hK _ zd⟩
  · rw [hg2 c hc e]
    have hne : K.lit c ≠ K.lit a := fun he => e (K.lit_inj hc ha he)
    exact ⟨(has_put_other hne _).trans h3, fun zd => (atKey_put_other hne _ zd).trans (h4 zd)⟩
/-- The store at its operation. -/
theorem wpList_vstore {w : World} {ops : Array Oper} {rest : List Oper} {o : Oper} {a : Act} {Q : Exit → Act → World → Prop} (hgd : o.guard = none) (m x v : Operand) (t : TypeId) (hop : o.op = Op.mapUpdate t m x v) {e : TypeId} (ht : P.underlying t = some (.map k e))
    (b n : Nat) (hm : a.eval m = .map (some b)) (h : VMap K w b n f) (hn : n < maxLen) (c : α) (hc : K.ok c) (hx : a.eval x = K.enc c) (u : Value) (hv : a.eval v = u) (g : α → Option Value) (hg1 : g c = some u) (hg2 : ∀ d, K.ok d → d ≠ c → g d = f d)
    (hK : ∀ w', VMap K w' b (n + 1) g → w.grownBy w' (some b) → wpList P ops Q rest (a.put o.dst undef) w') : wpList P ops Q (o :: rest) a w := by
  refine wpList_plain hgd fun KK hKK => ?_
  obtain ⟨w', hr, h1, h2⟩ := h.store ht hn hc u hg1 hg2
  unfold Oper.wp
  simp [execOp, hop, hm, hx, hv, hr, Result.andThen]
  exact hKK _ _ (hK w' h1 h2)
end Go.Proofs.Ytfddhmhagijodaa
