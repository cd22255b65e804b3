/- Several texts of the seat in one: HolP, HolItP, HolTotP. -/
import Derived.Test.YtkpdimbblcmnaaaKBase
import Derived.Test.YtkpdimbblcmnaaaKMap
import Derived.RangeFuncNested
import Derived.RangeFuncBound
import Derived.RangeFuncCalls
import Derived.RangeFuncLeaves
/- Holdings, plain: the share of a holder in an entity. No program. -/
namespace Go.Proofs.Ytkpdimbblcmnaaa
set_option linter.unusedSimpArgs false

/-- A holding. -/
structure Hol where
  holder : Int
  entity : Int
  date : Int
  share : Int
def Hol.cells (a : Hol) : List Value := [.int .i64 a.holder, .int .i64 a.entity, .int .i64 a.date, .int .i64 a.share]
def Hol.val (a : Hol) : Value := .agg #[.int .i64 a.holder, .int .i64 a.entity, .int .i64 a.date, .int .i64 a.share]
theorem Hol.len (a : Hol) : a.cells.length = 4 := rfl
abbrev Hols (w : World) (ao : Option Addr) (l : List Hol) (cap b o : Nat) : Prop := Recs w 4 Hol.cells ao l cap b o
def HolL (w : World) (v : Value) (l : List Hol) : Prop := ∃ ao cap b o, v = .slice ao l.length cap ∧ Hols w ao l cap b o
theorem HolL.keeps {w w' : World} {v : Value} {l : List Hol} (h : HolL w v l) (k : Keeps w w') : HolL w' v l := by obtain ⟨ao, cap, b, o, rfl, hs⟩ := h; exact ⟨ao, cap, b, o, rfl, hs.keeps k⟩

def pairB (h e : Int) (x : Hol) : Bool := x.holder == h && x.entity == e
/-- The later one, or the first of two of one date. -/
def pickH (m x : Hol) : Hol := if m.date < x.date then x else m
/-- The one that counts behind the holdings of a pair. -/
def curH (d : Int) (l : List Hol) : Option Hol := l.foldl (fun c x => if x.date ≤ d then (match c with | none => some x | some m => some (pickH m x)) else c) none
theorem curH_snoc (d : Int) (l : List Hol) (x : Hol) : curH d (l ++ [x]) = if x.date ≤ d then (match curH d l with | none => some x | some m => some (pickH m x)) else curH d l := by
  simp [curH, List.foldl_append]
theorem curH_late {d : Int} {l : List Hol} {x : Hol} (h : ¬ x.date ≤ d) : curH d (l ++ [x]) = curH d l := by rw [curH_snoc, if_neg h]
theorem curH_first {d : Int} {l : List Hol} {x : Hol} (h : x.date ≤ d) (hc : curH d l = none) : curH d (l ++ [x]) = some x := by rw [curH_snoc, if_pos h, hc]
theorem curH_new {d : Int} {l : List Hol} {x m : Hol} (h : x.date ≤ d) (hc : curH d l = some m) (hm : m.date < x.date) : curH d (l ++ [x]) = some x := by rw [curH_snoc, if_pos h, hc]; simp [pickH, hm]
theorem curH_old {d : Int} {l : List Hol} {x m : Hol} (h : x.date ≤ d) (hc : curH d l = some m) (hm : ¬ m.date < x.date) : curH d (l ++ [x]) = some m := by rw [curH_snoc, if_pos h, hc]; simp [pickH, hm]
def ofPair (l : List Hol) (h e : Int) : List Hol := l.filter (pairB h e)
theorem ofPair_yes {l : List Hol} {h e : Int} {x : Hol} (hx : pairB h e x = true) : ofPair (l ++ [x]) h e = ofPair l h e ++ [x] := by simp [ofPair, hx]
theorem ofPair_no {l : List Hol} {h e : Int} {x : Hol} (hx : pairB h e x = false) : ofPair (l ++ [x]) h e = ofPair l h e := by simp [ofPair, hx]
theorem ofPair_len (l : List Hol) (h e : Int) : (ofPair l h e).length ≤ l.length := List.length_filter_le _ _
def shareOf (c : Option Hol) : Int := match c with | none => 0 | some m => m.share
def sinceOf (c : Option Hol) : Int := match c with | none => 0 | some m => m.date
/-- The share of a holder in an entity at a date. -/
def atH (l : List Hol) (h e d : Int) : Int := shareOf (curH d (ofPair l h e))
end Go.Proofs.Ytkpdimbblcmnaaa

/- The sum of the shares in an entity: the plain part. -/
namespace Go.Proofs.Ytkpdimbblcmnaaa
open Go.RowKit Go.Maps
set_option linter.unusedSimpArgs false

/-- The holders, each once, in the order of their first holdings. -/
def firstsH (l : List Hol) : List Int := l.foldl (fun a x => if a.contains x.holder then a else a ++ [x.holder]) []
theorem firstsH_snoc (l : List Hol) (x : Hol) : firstsH (l ++ [x]) = if (firstsH l).contains x.holder then firstsH l else firstsH l ++ [x.holder] := by simp [firstsH, List.foldl_append]
theorem snoc_ind {α : Type} {p : List α → Prop} (h0 : p []) (h1 : ∀ l x, p l → p (l ++ [x])) : ∀ l, p l := by
  have key : ∀ (n : Nat) (l : List α), l.length = n → p l := by
    intro n
    induction n with
    | zero => intro l hl; rw [List.eq_nil_of_length_eq_zero hl]; exact h0
    | succ n ih =>
      intro l hl
      have hne : l ≠ [] := by intro e; subst e; simp at hl
      rw [← List.dropLast_concat_getLast hne]
      exact h1 _ _ (ih _ (by simp [hl]))
  exact fun l => key _ l rfl
theorem firstsH_mem (l : List Hol) : ∀ h, h ∈ firstsH l ↔ ∃ x ∈ l, x.holder = h := by
  induction l using snoc_ind with
  | h0 => intro h; simp [firstsH]
  | h1 l x ih =>
    intro h
    rw [firstsH_snoc]
    split
    · rename_i hc
      rw [ih]
      have hc' : x.holder ∈ firstsH l := by simpa using hc
      obtain ⟨y, hy, e⟩ := (ih _).1 hc'
      constructor
      · rintro ⟨z, hz, rfl⟩; exact ⟨z, by simp [hz], rfl⟩
      · rintro ⟨z, hz, rfl⟩
        rcases List.mem_append.1 hz with hz | hz
        · exact ⟨z, hz, rfl⟩
        · simp only [List.mem_singleton] at hz; subst hz; exact ⟨y, hy, e⟩
    · simp only [List.mem_append, List.mem_singleton, ih]
      constructor
      · rintro (⟨z, hz, rfl⟩ | rfl)
        · exact ⟨z, .inl hz, rfl⟩
        · exact ⟨x, .inr rfl, rfl⟩
      · rintro ⟨z, hz | rfl, rfl⟩
        · exact .inl ⟨z, hz, rfl⟩
        · exact .inr rfl
theorem firstsH_nodup (l : List Hol) : (firstsH l).Nodup := by
  induction l using snoc_ind with
  | h0 => simp [firstsH]
  | h1 l x ih =>
    rw [firstsH_snoc]
    split
    · exact ih
    · rename_i hc
      have hc' : x.holder ∉ firstsH l := by simpa using hc
      rw [List.nodup_append]
      refine ⟨ih, by simp, ?_⟩
      intro a ha b hb e
      simp only [List.mem_singleton] at hb
      subst hb; exact hc' (e ▸ ha)
theorem firstsH_len (l : List Hol) : (firstsH l).length ≤ l.length := by
  induction l using snoc_ind with
  | h0 => simp [firstsH]
  | h1 l x ih =>
    rw [firstsH_snoc]
    split <;> simp <;> omega
/-- The sum of the shares of some holders. -/
def sumAt (l : List Hol) (e d : Int) (hs : List Int) : Int := (hs.map fun h => atH l h e d).sum
def totH (l : List Hol) (e d : Int) : Int := sumAt l e d (firstsH l)
theorem sumAt_snoc (l : List Hol) (e d : Int) (hs : List Int) (h : Int) : sumAt l e d (hs ++ [h]) = sumAt l e d hs + atH l h e d := by simp [sumAt, List.sum_append]
/-- Shares of at most a thousand million. -/
def ShB (l : List Hol) : Prop := ∀ x ∈ l, -1000000000 ≤ x.share ∧ x.share ≤ 1000000000
theorem curH_mem {d : Int} {l : List Hol} {m : Hol} (h : curH d l = some m) : m ∈ l := by
  induction l using snoc_ind generalizing m with
  | h0 => cases h
  | h1 l x ih =>
    rw [curH_snoc] at h
    split at h
    · cases hc : curH d l with
      | none => rw [hc] at h; simp only [Option.some.injEq] at h; subst h; simp
      | some y =>
        rw [hc] at h
        simp only [Option.some.injEq] at h
        unfold pickH at h
        split at h
        · subst h; simp
        · subst h; simp [ih hc]
    · simp [ih h]
theorem atH_bd {l : List Hol} (hb : ShB l) (h e d : Int) : -1000000000 ≤ atH l h e d ∧ atH l h e d ≤ 1000000000 := by
  unfold atH
  cases hc : curH d (ofPair l h e) with
  | none => exact ⟨by decide, by decide⟩
  | some m => exact hb m (List.mem_filter.1 (curH_mem hc)).1
theorem sumAt_bd {l : List Hol} (hb : ShB l) (e d : Int) (hs : List Int) : -(1000000000 * (hs.length : Int)) ≤ sumAt l e d hs ∧ sumAt l e d hs ≤ 1000000000 * (hs.length : Int) := by
  induction hs with
  | nil => simp [sumAt]
  | cons h hs ih =>
    have h1 := atH_bd hb h e d
    have h2 : sumAt l e d (h :: hs) = atH l h e d + sumAt l e d hs := by simp [sumAt]
    rw [h2, List.length_cons]
    omega
/-- What has been added, the keys that are left not being in it. -/
def doneAt (l : List Hol) (e d : Int) (hs : List Int) (left : Lit → Bool) : Int := sumAt l e d (hs.filter fun h => !left (.int .i64 h))
theorem doneAt_start {l : List Hol} {e d : Int} {hs : List Int} {left : Lit → Bool} (h : ∀ x ∈ hs, left (.int .i64 x) = true) : doneAt l e d hs left = 0 := by
  unfold doneAt
  rw [List.filter_eq_nil_iff.2 (fun x hx => by simp [h x hx])]
  rfl
theorem doneAt_end {l : List Hol} {e d : Int} {hs : List Int} {left : Lit → Bool} (h : ∀ kl, left kl = false) : doneAt l e d hs left = sumAt l e d hs := by
  unfold doneAt
  rw [List.filter_eq_self.2 (fun x _ => by simp [h])]
theorem same_int (x y : Int) : (Lit.int .i64 y).sameKey (.int .i64 x) = decide (y = x) := by
  simp [Lit.sameKey]
theorem doneAt_step {l : List Hol} {e d : Int} {left : Lit → Bool} {x : Int} (hl : left (.int .i64 x) = true) : ∀ {hs : List Int}, hs.Nodup → x ∈ hs →
    doneAt l e d hs (fun z => left z && !z.sameKey (.int .i64 x)) = doneAt l e d hs left + atH l x e d := by
  intro hs
  induction hs with
  | nil => intro _ h; cases h
  | cons y hs ih =>
    intro hn hx
    have hy := (List.nodup_cons.1 hn).1
    have hn' := (List.nodup_cons.1 hn).2
    have e1 : ∀ (g : Lit → Bool), doneAt l e d (y :: hs) g = (if g (.int .i64 y) = true then 0 else atH l y e d) + doneAt l e d hs g := by
      intro g
      unfold doneAt
      rw [List.filter_cons]
      cases hg : g (.int .i64 y) <;> simp [sumAt]
    rw [e1, e1]
    by_cases hxy : y = x
    · subst hxy
      have h3 : doneAt l e d hs (fun z => left z && !z.sameKey (.int .i64 y)) = doneAt l e d hs left := by
        unfold doneAt
        congr 1
        apply List.filter_congr
        intro z hz
        have hzy : z ≠ y := fun e => hy (e ▸ hz)
        simp [same_int, hzy]
      rw [h3]
      simp [hl, same_int]
      omega
    · rcases List.mem_cons.1 hx with rfl | hx
      · exact absurd rfl hxy
      · rw [ih hn' hx]
        simp only [same_int, hxy, decide_false, Bool.not_false, Bool.and_true]
        omega
theorem doneAt_bd {l : List Hol} (hb : ShB l) (e d : Int) (hs : List Int) (left : Lit → Bool) : -(1000000000 * (hs.length : Int)) ≤ doneAt l e d hs left ∧ doneAt l e d hs left ≤ 1000000000 * (hs.length : Int) := by
  unfold doneAt
  have h1 := sumAt_bd hb e d (hs.filter fun h => !left (.int .i64 h))
  have h2 := List.length_filter_le (fun h : Int => !left (.int .i64 h)) hs
  omega
/-- The holders, as a map's keys. -/
def hasH (l : List Hol) : Int → Option Value := fun h => if l.any (fun x => x.holder == h) then some (.bool true) else none
theorem hasH_nil : hasH [] = fun _ => none := by funext h; simp [hasH]
theorem hasH_snoc (l : List Hol) (x : Hol) : hasH (l ++ [x]) x.holder = some (.bool true) ∧ ∀ d, d ≠ x.holder → hasH (l ++ [x]) d = hasH l d := by
  refine ⟨by simp [hasH], fun d hd => ?_⟩
  have : (x.holder == d) = false := by simpa using fun e => hd e.symm
  simp [hasH, this]
theorem hasH_some (l : List Hol) (h : Int) : (hasH l h).isSome = true ↔ h ∈ firstsH l := by
  rw [firstsH_mem]
  unfold hasH
  cases hc : l.any (fun x => x.holder == h) with
  | true =>
    simp only [if_true, Option.isSome_some, true_iff]
    simpa using hc
  | false =>
    simp only [Bool.false_eq_true, if_false, Option.isSome_none, false_iff]
    rintro ⟨x, hx, rfl⟩
    rw [List.any_eq_false] at hc
    simpa using hc x hx
end Go.Proofs.Ytkpdimbblcmnaaa

/- What a loop over an iterator keeps: all blocks below a number but those of an interval. No program. -/
namespace Go.Proofs.Ytkpdimbblcmnaaa
open Go.RowKit

/-- Of the blocks below N all but those from lo to hi lie as they lay. -/
structure KeepBut (N lo hi : Nat) (A C : World) : Prop where
  size : A.heap.size ≤ C.heap.size
  same : ∀ k, k < N → (k < lo ∨ hi ≤ k) → C.heap[k]? = A.heap[k]?
variable {N lo hi : Nat} {A B C : World}
theorem KeepBut.refl (N lo hi : Nat) (A : World) : KeepBut N lo hi A A := ⟨Nat.le_refl _, fun _ _ _ => rfl⟩
theorem KeepBut.trans (h : KeepBut N lo hi A B) (k : KeepBut N lo hi B C) : KeepBut N lo hi A C := ⟨Nat.le_trans h.size k.size, fun i h1 h2 => (k.same i h1 h2).trans (h.same i h1 h2)⟩
theorem KeepBut.alloc (h : KeepBut N lo hi A B) (hN : N ≤ B.heap.size) (o : Obj) : KeepBut N lo hi A (B.alloc o) :=
  ⟨by simp; have := h.size; omega, fun k h1 h2 => (Below.heap_alloc B o k (by omega)).trans (h.same k h1 h2)⟩
theorem KeepBut.setCell (h : KeepBut N lo hi A B) {p : Addr} (hp : lo ≤ p.block) (hq : p.block < hi) (v : Value) : KeepBut N lo hi A (B.setCell p v) :=
  ⟨by have := h.size; simpa [World.setCell] using this, fun k h1 h2 => (Below.heap_setCell B p v k (by omega)).trans (h.same k h1 h2)⟩
theorem KeepBut.putObj (W : World) (l : Nat) (o' : Obj) (hl : N ≤ l) : KeepBut N lo hi W (W.putObj l o') :=
  ⟨by simp, fun k h1 _ => World.putObj_heap_other (by omega)⟩
theorem KeepBut.drew (h : KeepBut N lo hi A B) : KeepBut N lo hi A B.drew := ⟨h.size, h.same⟩
theorem KeepBut.cell (h : KeepBut N lo hi A B) {p : Addr} (hp : p.block < N) (hq : p.block < lo ∨ hi ≤ p.block) {v : Value} (hc : A.cell? p = some v) : B.cell? p = some v := by
  have := h.same p.block hp hq
  rw [← hc]
  unfold World.cell?
  rw [this]
theorem KeepBut.hols {ao : Option Addr} {l : List Hol} {cap b o : Nat} (h : KeepBut N lo hi A B) (hp : b < N) (hq : b < lo ∨ hi ≤ b) (H : Hols A ao l cap b o) : Hols B ao l cap b o :=
  ⟨H.len, H.le, H.nocap, H.cap, H.addr, fun j u hu => h.cell (p := ⟨b, o + j, none⟩) hp hq (Sl.cell H j u hu)⟩
end Go.Proofs.Ytkpdimbblcmnaaa

