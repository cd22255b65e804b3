/- A valid mapping: the plain part. -/
import Derived.Test.YtppjjmjdiccloabLinkW
import Derived.Test.YtppjjmjdiccloabKeyL
namespace Go.Proofs.Ytppjjmjdiccloab
open Go.RowKit
set_option linter.unusedSimpArgs false

/-- The key of a link: its account and its date. -/
def keyL (l : Lnk) : Lnk := ⟨l.frm, 0, l.since⟩
def sameK (a b : Lnk) : Bool := a.frm == b.frm && a.since == b.since
def seenL (ls : List Lnk) : Lnk → Option Value := fun d => if ls.any (fun l => sameK l d) && d.to == 0 then some (.bool true) else none
theorem seenL_nil : seenL [] = fun _ => none := by funext d; simp [seenL]
theorem seenL_get (ls : List Lnk) (l : Lnk) : (seenL ls (keyL l)).getD (.bool false) = .bool (ls.any (fun a => sameK a l)) := by
  unfold seenL
  have : (ls.any fun a => sameK a (keyL l)) = ls.any (fun a => sameK a l) := rfl
  rw [this]
  cases ls.any (fun a => sameK a l) <;> simp [keyL]
theorem seenL_snoc (ls : List Lnk) (l : Lnk) : seenL (ls ++ [l]) (keyL l) = some (.bool true) ∧ ∀ d, d ≠ keyL l → seenL (ls ++ [l]) d = seenL ls d := by
  refine ⟨by simp [seenL, sameK, keyL], fun d hd => ?_⟩
  unfold seenL
  have : (sameK l d && d.to == 0) = false := by
    rw [Bool.eq_false_iff]
    intro h
    apply hd
    obtain ⟨d0, d1, d2⟩ := d
    simp only [sameK, Bool.and_eq_true, beq_iff_eq] at h
    simp [keyL, h]
  have h2 : ((ls ++ [l]).any (fun a => sameK a d) && d.to == 0) = (ls.any (fun a => sameK a d) && d.to == 0) := by
    rw [List.any_append]
    simp only [List.any_cons, List.any_nil, Bool.or_false]
    cases h3 : ls.any (fun a => sameK a d) <;> simp_all
  rw [h2]
def okL (x c : List Acc) (ls : List Lnk) (k : Nat) : Bool := match ls[k]? with
  | none => true
  | some l => !((ls.take k).any (fun a => sameK a l)) && linkB x c l
def mvalidB (en : Ent) (c : List Acc) : Bool := validRB c true && validRB en.chart false && decide (en.links.length ≤ 400) && (List.range en.links.length).all (okL en.chart c en.links)
theorem okL_at {x c : List Acc} {ls : List Lnk} {k : Nat} (hk : k < ls.length) : okL x c ls k = (!((ls.take k).any (fun a => sameK a ls[k])) && linkB x c ls[k]) := by
  unfold okL; rw [List.getElem?_eq_getElem hk]
theorem mvalidB_bad {en : Ent} {c : List Acc} {k : Nat} (hk : k < en.links.length) (h : okL en.chart c en.links k = false) : mvalidB en c = false := by
  unfold mvalidB
  rw [all_range_false hk h, Bool.and_false]
theorem mvalidB_good {en : Ent} {c : List Acc} (h1 : validRB c true = true) (h2 : validRB en.chart false = true) (h3 : en.links.length ≤ 400) (h : ∀ k < en.links.length, okL en.chart c en.links k = true) : mvalidB en c = true := by
  unfold mvalidB
  rw [h1, h2, decide_eq_true h3, List.all_eq_true.2 (fun k hk => h k (List.mem_range.1 hk))]
  rfl
theorem mvalidB_1 {en : Ent} {c : List Acc} (h : validRB c true = false) : mvalidB en c = false := by unfold mvalidB; rw [h]; rfl
theorem mvalidB_2 {en : Ent} {c : List Acc} (h : validRB en.chart false = false) : mvalidB en c = false := by unfold mvalidB; rw [h, Bool.and_false]; rfl
end Go.Proofs.Ytppjjmjdiccloab
