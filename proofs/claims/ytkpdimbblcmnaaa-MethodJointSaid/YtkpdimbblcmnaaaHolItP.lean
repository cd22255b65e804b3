/- What a loop over an iterator keeps: all blocks below a number but those of an interval. No program. -/
import Derived.Test.YtkpdimbblcmnaaaHolP
import Derived.RangeFuncNested
import Derived.RangeFuncBound
import Derived.RangeFuncCalls
import Derived.RangeFuncLeaves
namespace Go.Proofs.Ytkpdimbblcmnaaa
open Go.RowKit

/-- Of the blocks below N all but those from lo to hi lie as they lay. -/
structure KeepBut (N lo hi : Nat) (A C : World) : Prop where
  size : A.heap.size ≤ C.heap.size
  same : ∀ k, k < N → (k < lo ∨ hi ≤ k) → C.heap[k]? = A.heap[k]?
variable {N lo hi : Nat} {A B C : World}
theorem KeepBut.refl (N lo hi : Nat) (A : World) : KeepBut N lo hi A A := ⟨Nat.le_refl _, fun _ _ _ => rfl⟩
theorem KeepBut.trans (h : KeepBut N lo hi A B) (k : KeepBut N lo hi B C) : KeepBut N lo hi A C := ⟨Nat.le_trans h.size k.size, fun i h1 h2 => (k.same i h1 h2).trans (h.same i h1 h2)⟩
theorem KeepBut.alloc (h : KeepBut N lo hi A B) (hN : N ≤ B.heap.size) (o : Obj) : KeepBut N lo hi A (B.alloc o) :=
  ⟨by simp; have := h.size; omega, fun k h1 h2 => (Below.heap_alloc B o k (by omega)).trans (h.same k h1 h2)⟩
theorem KeepBut.setCell (h : KeepBut N lo hi A B) {p : Addr} (hp : lo ≤ p.block) (hq : p.block < hi) (v : Value) : KeepBut N lo hi A (B.setCell p v) :=
  ⟨by have := h.size; simpa [World.setCell] using this, fun k h1 h2 => (Below.heap_setCell B p v k (by omega)).trans (h.same k h1 h2)⟩
theorem KeepBut.putObj (W : World) (l : Nat) (o' : Obj) (hl : N ≤ l) : KeepBut N lo hi W (W.putObj l o') :=
  ⟨by simp, fun k h1 _ => World.putObj_heap_other (by omega)⟩
theorem KeepBut.drew (h : KeepBut N lo hi A B) : KeepBut N lo hi A B.drew := ⟨h.size, h.same⟩
theorem KeepBut.cell (h : KeepBut N lo hi A B) {p : Addr} (hp : p.block < N) (hq : p.block < lo ∨ hi ≤ p.block) {v : Value} (hc : A.cell? p = some v) : B.cell? p = some v := by
  have := h.same p.block hp hq
  rw [← hc]
  unfold World.cell?
  rw [this]
theorem KeepBut.hols {ao : Option Addr} {l : List Hol} {cap b o : Nat} (h : KeepBut N lo hi A B) (hp : b < N) (hq : b < lo ∨ hi ≤ b) (H : Hols A ao l cap b o) : Hols B ao l cap b o :=
  ⟨H.len, H.le, H.nocap, H.cap, H.addr, fun j u hu => h.cell (p := ⟨b, o + j, none⟩) hp hq (Sl.cell H j u hu)⟩
end Go.Proofs.Ytkpdimbblcmnaaa
