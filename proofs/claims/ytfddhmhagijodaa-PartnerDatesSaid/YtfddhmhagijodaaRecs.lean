/- Slices of records: their cells, their addresses. No program. -/
import Derived.Test.YtfddhmhagijodaaApp
namespace Go.Proofs.Ytfddhmhagijodaa
open Go.RowKit

/-- The slice reads in w as the records l, each of sz cells. -/
def Recs {α : Type} (w : World) (sz : Nat) (enc : α → List Value) (ao : Option Addr) (l : List α) (cap b o : Nat) : Prop := Sl w sz ao l.length cap b o (l.flatMap enc)
theorem flat_length {α : Type} {enc : α → List Value} {sz : Nat} (he : ∀ a, (enc a).length = sz) : ∀ l : List α, (l.flatMap enc).length = l.length * sz
  | [] => by simp
  | a :: l => by rw [List.flatMap_cons, List.length_append, he, flat_length he l, List.length_cons, Nat.add_mul]; omega
theorem flat_get {α : Type} {enc : α → List Value} {sz : Nat} (he : ∀ a, (enc a).length = sz) : ∀ (l : List α) (k j : Nat) (hk : k < l.length), j < sz → (l.flatMap enc)[k * sz + j]? = (enc l[k])[j]?
  | a :: l, 0, j, _, hj => by rw [List.flatMap_cons, Nat.zero_mul, Nat.zero_add, List.getElem?_append_left (by rw [he]; exact hj)]; rfl
  | a :: l, k + 1, j, hk, hj => by
    rw [List.flatMap_cons, List.getElem?_append_right (by rw [he, Nat.add_mul]; omega), he]
    have : (k + 1) * sz + j - sz = k * sz + j := by rw [Nat.add_mul]; omega
    rw [this]
    exact flat_get he l k j (by simpa using hk) hj
theorem Recs.cell {α : Type} {w : World} {sz : Nat} {enc : α → List Value} {ao : Option Addr} {l : List α} {cap b o : Nat} (H : Recs w sz enc ao l cap b o) (he : ∀ a, (enc a).length = sz) (k : Nat) (hk : k < l.length) (j : Nat) (v : Value) (hj : (enc l[k])[j]? = some v) :
    w.cell? ⟨b, o + k * sz + j, none⟩ = some v := by
  have hjs : j < sz := by have := (List.getElem?_eq_some_iff.1 hj).1; rw [he] at this; exact this
  have := Sl.cell H (k * sz + j) v ((flat_get he l k j hk hjs).trans hj)
  rw [show o + k * sz + j = o + (k * sz + j) from by omega]
  exact this
theorem Recs.keeps {α : Type} {w w' : World} {sz : Nat} {enc : α → List Value} {ao : Option Addr} {l : List α} {cap b o : Nat} (H : Recs w sz enc ao l cap b o) (h : Keeps w w') : Recs w' sz enc ao l cap b o := Sl.keeps H h
theorem Recs.drewN {α : Type} {w : World} {sz : Nat} {enc : α → List Value} {ao : Option Addr} {l : List α} {cap b o : Nat} (H : Recs w sz enc ao l cap b o) (q : Nat) : Recs (w.drewN q) sz enc ao l cap b o := Sl.drewN H q
theorem Recs.own {α : Type} {w : World} {sz base e : Nat} {enc : α → List Value} {v : Value} {l : List α} (h : w.ownsRow base e sz v l.length (l.flatMap enc)) : ∃ ao cap b, v = .slice ao l.length cap ∧ Recs w sz enc ao l cap b 0 := Sl.own h

/-- A record of four ints, of three, of two. -/
structure Acc where
  code : Int
  kind : Int
  basis : Int
  parent : Int
structure Lnk where
  frm : Int
  to : Int
  since : Int
structure Bal where
  acc : Int
  amount : Int
def Acc.cells (a : Acc) : List Value := [.int .i64 a.code, .int .i64 a.kind, .int .i64 a.basis, .int .i64 a.parent]
def Lnk.cells (a : Lnk) : List Value := [.int .i64 a.frm, .int .i64 a.to, .int .i64 a.since]
def Bal.cells (a : Bal) : List Value := [.int .i64 a.acc, .int .i64 a.amount]
def Acc.val (a : Acc) : Value := .agg #[.int .i64 a.code, .int .i64 a.kind, .int .i64 a.basis, .int .i64 a.parent]
def Lnk.val (a : Lnk) : Value := .agg #[.int .i64 a.frm, .int .i64 a.to, .int .i64 a.since]
def Bal.val (a : Bal) : Value := .agg #[.int .i64 a.acc, .int .i64 a.amount]
def Acc.zero : Acc := ⟨0, 0, 0, 0⟩
theorem Acc.len (a : Acc) : a.cells.length = 4 := rfl
theorem Lnk.len (a : Lnk) : a.cells.length = 3 := rfl
theorem Bal.len (a : Bal) : a.cells.length = 2 := rfl
abbrev Accs (w : World) (ao : Option Addr) (l : List Acc) (cap b o : Nat) : Prop := Recs w 4 Acc.cells ao l cap b o
abbrev Lnks (w : World) (ao : Option Addr) (l : List Lnk) (cap b o : Nat) : Prop := Recs w 3 Lnk.cells ao l cap b o
abbrev Bals (w : World) (ao : Option Addr) (l : List Bal) (cap b o : Nat) : Prop := Recs w 2 Bal.cells ao l cap b o

/-- What a value reads as. -/
def AccL (w : World) (v : Value) (l : List Acc) : Prop := ∃ ao cap b o, v = .slice ao l.length cap ∧ Accs w ao l cap b o
def LnkL (w : World) (v : Value) (l : List Lnk) : Prop := ∃ ao cap b o, v = .slice ao l.length cap ∧ Lnks w ao l cap b o
def BalL (w : World) (v : Value) (l : List Bal) : Prop := ∃ ao cap b o, v = .slice ao l.length cap ∧ Bals w ao l cap b o
theorem AccL.keeps {w w' : World} {v : Value} {l : List Acc} (h : AccL w v l) (k : Keeps w w') : AccL w' v l := by obtain ⟨ao, cap, b, o, rfl, hs⟩ := h; exact ⟨ao, cap, b, o, rfl, hs.keeps k⟩
theorem LnkL.keeps {w w' : World} {v : Value} {l : List Lnk} (h : LnkL w v l) (k : Keeps w w') : LnkL w' v l := by obtain ⟨ao, cap, b, o, rfl, hs⟩ := h; exact ⟨ao, cap, b, o, rfl, hs.keeps k⟩
theorem BalL.keeps {w w' : World} {v : Value} {l : List Bal} (h : BalL w v l) (k : Keeps w w') : BalL w' v l := by obtain ⟨ao, cap, b, o, rfl, hs⟩ := h; exact ⟨ao, cap, b, o, rfl, hs.keeps k⟩
/-- An entity. -/
structure Ent where
  name : ByteArray
  cur : ByteArray
  chart : List Acc
  links : List Lnk
  joint : Bool
def EntV (w : World) (v : Value) (e : Ent) : Prop := ∃ c l, v = .agg #[.string e.name, .string e.cur, c, l, .bool e.joint] ∧ AccL w c e.chart ∧ LnkL w l e.links
theorem EntV.keeps {w w' : World} {v : Value} {e : Ent} (h : EntV w v e) (k : Keeps w w') : EntV w' v e := by
  obtain ⟨c, l, rfl, h1, h2⟩ := h
  exact ⟨c, l, rfl, h1.keeps k, h2.keeps k⟩
theorem retp {a b : Value} (h : a = b) : Ending.returned a = .returned b := by rw [h]
end Go.Proofs.Ytfddhmhagijodaa
