/- Holdings at other dates: the plain part. -/
import Derived.Test.YtmlpdpacefnngaaHolTotP
namespace Go.Proofs.Ytmlpdpacefnngaa
set_option linter.unusedSimpArgs false
set_option linter.unusedVariables false
/-- The holdings that begin at the date or earlier. -/
def sooner (d : Int) (l : List Hol) : List Hol := l.filter fun x => decide (x.date ≤ d)
theorem sooner_yes {d : Int} {l : List Hol} {x : Hol} (h : x.date ≤ d) : sooner d (l ++ [x]) = sooner d l ++ [x] := by simp [sooner, h]
theorem sooner_no {d : Int} {l : List Hol} {x : Hol} (h : ¬ x.date ≤ d) : sooner d (l ++ [x]) = sooner d l := by simp [sooner, h]
theorem curH_sooner (d : Int) (l : List Hol) : curH d (sooner d l) = curH d l := by
  induction l using snoc_ind with
  | h0 => rfl
  | h1 l x ih =>
    by_cases h : x.date ≤ d
    · rw [sooner_yes h, curH_snoc, curH_snoc, ih]
    · rw [sooner_no h, curH_late h, ih]
theorem ofPair_sooner (d : Int) (l : List Hol) (h e : Int) : ofPair (sooner d l) h e = sooner d (ofPair l h e) := by
  unfold ofPair sooner
  rw [List.filter_filter, List.filter_filter]
  congr 1
  funext x
  exact Bool.and_comm _ _
theorem atH_sooner (d : Int) (l : List Hol) (h e : Int) : atH (sooner d l) h e d = atH l h e d := by
  unfold atH
  rw [ofPair_sooner, curH_sooner]
theorem curH_congr {d0 d1 : Int} (l : List Hol) : (∀ x ∈ l, (x.date ≤ d0 ↔ x.date ≤ d1)) → curH d0 l = curH d1 l := by
  induction l using snoc_ind with
  | h0 => intro _; rfl
  | h1 l x ih =>
    intro h
    have hx := h x (by simp)
    have hr := ih fun y hy => h y (by simp [hy])
    by_cases h0 : x.date ≤ d0
    · rw [curH_snoc, curH_snoc, hr, if_pos h0, if_pos (hx.1 h0)]
    · rw [curH_late h0, curH_late (fun h1 => h0 (hx.2 h1)), hr]
theorem atH_congr {d0 d1 : Int} {l : List Hol} (hh e : Int) (h : ∀ x ∈ l, (x.date ≤ d0 ↔ x.date ≤ d1)) : atH l hh e d0 = atH l hh e d1 := by
  unfold atH
  rw [curH_congr (ofPair l hh e) fun x hx => h x (List.mem_filter.1 hx).1]
end Go.Proofs.Ytmlpdpacefnngaa
