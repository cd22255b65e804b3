/- Holdings, plain: the share of a holder in an entity. No program. -/
import Derived.Test.YtkpdimbblcmnaaaRecs
namespace Go.Proofs.Ytkpdimbblcmnaaa
set_option linter.unusedSimpArgs false

/-- A holding. -/
structure Hol where
  holder : Int
  entity : Int
  date : Int
  share : Int
def Hol.cells (a : Hol) : List Value := [.int .i64 a.holder, .int .i64 a.entity, .int .i64 a.date, .int .i64 a.share]
def Hol.val (a : Hol) : Value := .agg #[.int .i64 a.holder, .int .i64 a.entity, .int .i64 a.date, .int .i64 a.share]
theorem Hol.len (a : Hol) : a.cells.length = 4 := rfl
abbrev Hols (w : World) (ao : Option Addr) (l : List Hol) (cap b o : Nat) : Prop := Recs w 4 Hol.cells ao l cap b o
def HolL (w : World) (v : Value) (l : List Hol) : Prop := ∃ ao cap b o, v = .slice ao l.length cap ∧ Hols w ao l cap b o
theorem HolL.keeps {w w' : World} {v : Value} {l : List Hol} (h : HolL w v l) (k : Keeps w w') : HolL w' v l := by obtain ⟨ao, cap, b, o, rfl, hs⟩ := h; exact ⟨ao, cap, b, o, rfl, hs.keeps k⟩

def pairB (h e : Int) (x : Hol) : Bool := x.holder == h && x.entity == e
/-- The later one, or the first of two of one date. -/
def pickH (m x : Hol) : Hol := if m.date < x.date then x else m
/-- The one that counts behind the holdings of a pair. -/
def curH (d : Int) (l : List Hol) : Option Hol := l.foldl (fun c x => if x.date ≤ d then (match c with | none => some x | some m => some (pickH m x)) else c) none
theorem curH_snoc (d : Int) (l : List Hol) (x : Hol) : curH d (l ++ [x]) = if x.date ≤ d then (match curH d l with | none => some x | some m => some (pickH m x)) else curH d l := by
  simp [curH, List.foldl_append]
theorem curH_late {d : Int} {l : List Hol} {x : Hol} (h : ¬ x.date ≤ d) : curH d (l ++ [x]) = curH d l := by rw [curH_snoc, if_neg h]
theorem curH_first {d : Int} {l : List Hol} {x : Hol} (h : x.date ≤ d) (hc : curH d l = none) : curH d (l ++ [x]) = some x := by rw [curH_snoc, if_pos h, hc]
theorem curH_new {d : Int} {l : List Hol} {x m : Hol} (h : x.date ≤ d) (hc : curH d l = some m) (hm : m.date < x.date) : curH d (l ++ [x]) = some x := by rw [curH_snoc, if_pos h, hc]; simp [pickH, hm]
theorem curH_old {d : Int} {l : List Hol} {x m : Hol} (h : x.date ≤ d) (hc : curH d l = some m) (hm : ¬ m.date < x.date) : curH d (l ++ [x]) = some m := by rw [curH_snoc, if_pos h, hc]; simp [pickH, hm]
def ofPair (l : List Hol) (h e : Int) : List Hol := l.filter (pairB h e)
theorem ofPair_yes {l : List Hol} {h e : Int} {x : Hol} (hx : pairB h e x = true) : ofPair (l ++ [x]) h e = ofPair l h e ++ [x] := by simp [ofPair, hx]
theorem ofPair_no {l : List Hol} {h e : Int} {x : Hol} (hx : pairB h e x = false) : ofPair (l ++ [x]) h e = ofPair l h e := by simp [ofPair, hx]
theorem ofPair_len (l : List Hol) (h e : Int) : (ofPair l h e).length ≤ l.length := List.length_filter_le _ _
def shareOf (c : Option Hol) : Int := match c with | none => 0 | some m => m.share
def sinceOf (c : Option Hol) : Int := match c with | none => 0 | some m => m.date
/-- The share of a holder in an entity at a date. -/
def atH (l : List Hol) (h e d : Int) : Int := shareOf (curH d (ofPair l h e))
end Go.Proofs.Ytkpdimbblcmnaaa
