/- Small general lemmas and words for the walks of this seat: a slice that reads as a list of cells; endings; lists. No program. -/
import Derived.WalkKit
import Derived.WalkLawsBesides
import Derived.Lib.Hide
import Derived.Deep.Draws
namespace Go.Proofs.Ytfddhmhagijodaa
open Go.RowKit

/-- The slice reads in w as the cells cs (n elements of sz cells), at block b from o on. -/
structure Sl (w : World) (sz : Nat) (ao : Option Addr) (n cap b o : Nat) (cs : List Value) : Prop where
  len : cs.length = n * sz
  le : n ≤ cap
  nocap : ao = none → cap = 0
  cap : cap ≤ 9223372036854775807
  addr : 0 < n → ao = some ⟨b, o, none⟩
  cell : ∀ j u, cs[j]? = some u → w.cell? ⟨b, o + j, none⟩ = some u

theorem Sl.int {w : World} {ao : Option Addr} {cap b o : Nat} {k : IntKind} {zs : List Int} (H : Sl w 1 ao zs.length cap b o (zs.map (.int k))) (j : Nat) (hj : j < zs.length) :
    w.cell? ⟨b, o + j, none⟩ = some (.int k zs[j]) := H.cell j _ (by simp [hj])

theorem Sl.drewN {w : World} {sz : Nat} {ao : Option Addr} {n cap b o : Nat} {cs : List Value} (H : Sl w sz ao n cap b o cs) (q : Nat) : Sl (w.drewN q) sz ao n cap b o cs :=
  ⟨H.len, H.le, H.nocap, H.cap, H.addr, H.cell⟩

/-- What reads in w reads in every world that keeps what lay in w. -/
theorem Sl.below {w w' : World} {sz : Nat} {ao : Option Addr} {n cap b o : Nat} {cs : List Value} {B : Nat} (H : Sl w sz ao n cap b o cs) (hb : b < B) (h : Below B w w') : Sl w' sz ao n cap b o cs :=
  ⟨H.len, H.le, H.nocap, H.cap, H.addr, fun j u hu => (h.cell (p := ⟨b, o + j, none⟩) hb).trans (H.cell j u hu)⟩

theorem take_snoc {α : Type} (l : List α) (k : Nat) (h : k < l.length) : l.take (k + 1) = l.take k ++ [l[k]] := by
  rw [List.take_succ_eq_append_getElem h]
theorem ret1 {k : IntKind} {a b : Int} (h : a = b) : Ending.returned (.int k a) = .returned (.int k b) := by rw [h]
theorem retb {a b : Bool} (h : a = b) : Ending.returned (.bool a) = .returned (.bool b) := by rw [h]
theorem ret2 {k j : IntKind} {a b c d : Int} (h : a = c) (h' : b = d) : Ending.returned (.tuple #[.int k a, .int j b]) = .returned (.tuple #[.int k c, .int j d]) := by rw [h, h']

/-- The result is v, and at most draws have been made. -/
def Gives (w : World) (v : Value) (e : Ending) (w' : World) : Prop := e = .returned v ∧ ∃ n, w' = w.drewN n
theorem Gives.same {w : World} {v : Value} : Gives w v (.returned v) w := ⟨rfl, 0, rfl⟩
theorem Gives.of {w : World} {v u : Value} (h : u = v) (n : Nat) : Gives w v (.returned u) (w.drewN n) := ⟨by rw [h], n, rfl⟩

/-- What lay in w lies in w' as it lay. -/
def Keeps (w w' : World) : Prop := Below w.heap.size w w'
theorem Keeps.refl (w : World) : Keeps w w := Below.refl _ _
theorem Keeps.trans {a b c : World} (h : Keeps a b) (k : Keeps b c) : Keeps a c := Below.trans h (k.mono h.size)
theorem Keeps.drewN {a b : World} (h : Keeps a b) (n : Nat) : Keeps a (b.drewN n) := below_drewN h n
theorem Keeps.alloc {a b : World} (h : Keeps a b) (o : Obj) : Keeps a (b.alloc o) := Below.alloc h h.size o
theorem Keeps.setCell {a b : World} (h : Keeps a b) {p : Addr} (hp : a.heap.size ≤ p.block) (v : Value) : Keeps a (b.setCell p v) := Below.setCell h hp v
theorem Keeps.drew {a b : World} (h : Keeps a b) : Keeps a b.drew := below_drewN h 1
theorem Keeps.cell {a b : World} (h : Keeps a b) {p : Addr} {v : Value} (hc : a.cell? p = some v) : b.cell? p = some v :=
  (Below.cell h (World.block_lt_of_cell? a p hc)).trans hc
theorem Keeps.frz {a b : World} (h : Keeps a b) {p : Addr} {v : Value} (hc : a.cell? p = some v) (hf : a.frozen? p = false) : b.frozen? p = false :=
  (Below.frozen h (World.block_lt_of_cell? a p hc)).trans hf
theorem Sl.keeps {w w' : World} {sz : Nat} {ao : Option Addr} {n cap b o : Nat} {cs : List Value} (H : Sl w sz ao n cap b o cs) (h : Keeps w w') : Sl w' sz ao n cap b o cs :=
  ⟨H.len, H.le, H.nocap, H.cap, H.addr, fun j u hu => h.cell (H.cell j u hu)⟩
theorem Sl.nil (w : World) (sz : Nat) : Sl w sz none 0 0 0 0 [] := ⟨by simp, Nat.le_refl _, fun _ => rfl, by omega, fun h => absurd h (Nat.lt_irrefl _), fun j u hu => by simp at hu⟩

/-- A row that the call owns reads as a slice. -/
theorem Sl.own {w : World} {base e size n : Nat} {v : Value} {xs : List Value} (h : w.ownsRow base e size v n xs) :
    ∃ ao cap b, v = .slice ao n cap ∧ Sl w size ao n cap b 0 xs := by
  rcases h.2 with ⟨rfl, rfl⟩ | ⟨g, cap, cur, rfl, hb, hg, hn, hm, hs, ht⟩
  · have : xs = [] := List.eq_nil_of_length_eq_zero (by simpa using h.1)
    subst this
    exact ⟨none, 0, 0, rfl, Sl.nil w size⟩
  · refine ⟨_, cap, g, rfl, h.1, hn, (fun h => by cases h), by unfold maxLen at hm; exact hm, fun _ => rfl, fun j u hu => ?_⟩
    have := h.cells (g := g) rfl j u hu
    rwa [Addr.add_lit] at this

/-- A list of ints and an error code: the slice is new. -/
def OutL (w : World) (xs : List Int) (er : Int) (e : Ending) (w' : World) : Prop :=
  ∃ ao cap b o, e = .returned (.tuple #[.slice ao xs.length cap, .int .i64 er]) ∧ Sl w' 1 ao xs.length cap b o (xs.map (.int .i64)) ∧ Keeps w w'
theorem OutL.nil {w w' : World} {er : Int} (h : Keeps w w') : OutL w [] er (.returned (.tuple #[.slice none 0 0, .int .i64 er])) w' :=
  ⟨none, 0, 0, 0, rfl, Sl.nil _ _, h⟩
theorem OutL.own {w w' : World} {xs : List Int} {er : Int} {v : Value} {base e : Nat} (h : w'.ownsRow base e 1 v xs.length (xs.map (.int .i64))) (hk : Keeps w w') :
    OutL w xs er (.returned (.tuple #[v, .int .i64 er])) w' := by
  obtain ⟨ao, cap, b, rfl, hs⟩ := Sl.own h
  exact ⟨ao, cap, b, 0, rfl, hs, hk⟩

/-- The address of an element: given to the walk as a rule, it needs no parting on whether the slice is nil. -/
theorem Sl.at {P : Program} {t e : TypeId} {w : World} {sz : Nat} {ao : Option Addr} {n cap b o : Nat} {cs : List Value} (H : Sl w sz ao n cap b o cs) (ht : P.underlying t = some (.slice e)) (hz : ∀ w, (sizeOf e).run P w = .ok sz w)
    (k : Nat) (hk : k < n) : ∀ w', (Instr.indexAt t (.slice ao n cap) (.int .i64 (k : Int))).run P w' = .ok (.pointer (some ⟨b, o + k * sz, none⟩)) w' := by
  intro w'
  obtain rfl := H.addr (by omega)
  have h1 : ((⟨b, o, none⟩ : Addr).add (k * sz)) = ⟨b, o + k * sz, none⟩ := Addr.add_lit _ _ _
  have he : P.elem t = e := by simp [Program.elem, ht]
  rw [run_indexAt_slice _ _ _ _ _ _ _ (by rw [he]; exact ht), if_pos (by omega), he, hz, Result.andThen_ok, Int.toNat_natCast, h1]
theorem Sl.at1 {P : Program} {t e : TypeId} {w : World} {ao : Option Addr} {n cap b o : Nat} {cs : List Value} (H : Sl w 1 ao n cap b o cs) (ht : P.underlying t = some (.slice e)) (hz : ∀ w, (sizeOf e).run P w = .ok 1 w)
    (k : Nat) (hk : k < n) : ∀ w', (Instr.indexAt t (.slice ao n cap) (.int .i64 (k : Int))).run P w' = .ok (.pointer (some ⟨b, o + k, none⟩)) w' := by
  have := H.at ht hz k hk
  simpa only [Nat.mul_one] using this
end Go.Proofs.Ytfddhmhagijodaa
