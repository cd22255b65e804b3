/- Walks and plain facts that the claim rests on (RegS). No condition. -/
import Derived.Test.YtoaidbhiciaeaaaGreatOr18
import Derived.Test.YtoaidbhiciaeaaaGreatOr07
section
namespace Go.Proofs.YtoaidbhiciaeaaaGreat
open Go.RowKit
structure RS (g1 g2 n1 n2 : Nat) (C D : List Value) (w w' : World) : Prop where
  size : w.heap.size ≤ w'.heap.size
  cell : ∀ p : Addr, p.block ≠ g1 → p.block ≠ g2 → ∀ v, w.cell? p = some v → w'.cell? p = some v
  t1 : w.there g1 0 n1 → w'.there g1 0 n1
  t2 : w.there g2 0 n2 → w'.there g2 0 n2
  r1 : w.rangeAt g1 0 C → w'.rangeAt g1 0 C
  r2 : w.rangeAt g2 0 D → w'.rangeAt g2 0 D
  keep : ∀ w0 : World, w0.heap.size ≤ g1 → w0.heap.size ≤ g2 → Keeps w0 w → Keeps w0 w'
variable {g1 g2 n1 n2 : Nat} {C D : List Value}
theorem RS.refl (w : World) : RS g1 g2 n1 n2 C D w w := ⟨Nat.le_refl _, fun _ _ _ _ h => h, id, id, id, id, fun _ _ _ h => h⟩
theorem RS.trans {a b c : World} (h : RS g1 g2 n1 n2 C D a b) (k : RS g1 g2 n1 n2 C D b c) : RS g1 g2 n1 n2 C D a c :=
  ⟨Nat.le_trans h.size k.size, fun p h1 h2 v hv => k.cell p h1 h2 v (h.cell p h1 h2 v hv), fun x => k.t1 (h.t1 x), fun x => k.t2 (h.t2 x), fun x => k.r1 (h.r1 x), fun x => k.r2 (h.r2 x), fun w0 h1 h2 x => k.keep w0 h1 h2 (h.keep w0 h1 h2 x)⟩
theorem isSome_set {w : World} {a b : Addr} {v : Value} (h : (w.cell? b).isSome = true) : ((w.setCell a v).cell? b).isSome = true := by
  by_cases e : a = b
  · subst e; rw [World.cell?_setCell_same' w a v h]; rfl
  · rw [World.cell?_setCell_other _ _ _ _ e]; exact h
theorem isSome_sets {b : Addr} {B : Nat} : ∀ (vs : List Value) (p : Nat) (w : World), (w.cell? b).isSome = true → ((w.setCells B p vs).cell? b).isSome = true
  | [], _, _, h => h
  | v :: vs, p, w, h => isSome_sets vs (p + 1) (w.setCell ⟨B, p, none⟩ v) (isSome_set h)
theorem there_set {w : World} {b o n B p : Nat} {vs : List Value} (h : w.there b o n) : (w.setCells B p vs).there b o n := fun j hj => by
  obtain ⟨h1, h2⟩ := h j hj
  exact ⟨isSome_sets _ _ _ h1, by rw [World.frozen?_setCells]; exact h2⟩
theorem size_sets {B : Nat} : ∀ (vs : List Value) (p : Nat) (w : World), (w.setCells B p vs).heap.size = w.heap.size
  | [], _, _ => rfl
  | v :: vs, p, w => by
    show ((w.setCell ⟨B, p, none⟩ v).setCells B (p + 1) vs).heap.size = _
    rw [size_sets vs (p + 1)]; simp
theorem RS.set1 (hne : g1 ≠ g2) {w : World} (ht : w.there g1 0 C.length) : RS g1 g2 n1 n2 C D w (w.setCells g1 0 C) :=
  ⟨by rw [size_sets]; exact Nat.le_refl _, fun p h1 _ v hv => by rw [World.cell?_setCells_out g1 C 0 w p (fun e => absurd e h1)]; exact hv, fun h => there_set h, fun h => there_set h, fun _ => World.rangeAt_setCells_same _ _ _ _ ht, fun h => range_setCells h (fun e => hne e.symm) _, fun w0 h1 _ h => keeps_setCellsP h1 _ _ _ h⟩
theorem RS.set2 (hne : g1 ≠ g2) {w : World} (ht : w.there g2 0 D.length) : RS g1 g2 n1 n2 C D w (w.setCells g2 0 D) :=
  ⟨by rw [size_sets]; exact Nat.le_refl _, fun p _ h2 v hv => by rw [World.cell?_setCells_out g2 D 0 w p (fun e => absurd e h2)]; exact hv, fun h => there_set h, fun h => there_set h, fun h => range_setCells h hne _, fun _ => World.rangeAt_setCells_same _ _ _ _ ht, fun w0 _ h2 h => keeps_setCellsP h2 _ _ _ h⟩
theorem RS.drew (w : World) : RS g1 g2 n1 n2 C D w w.drew := ⟨Nat.le_refl _, fun _ _ _ _ h => h, fun h => h, fun h => h, fun h => h, fun h => h, fun _ _ _ h => h.drew⟩
end Go.Proofs.YtoaidbhiciaeaaaGreat

end
