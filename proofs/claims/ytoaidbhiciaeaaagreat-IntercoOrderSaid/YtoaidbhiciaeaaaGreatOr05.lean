/- Walks and plain facts that the claim rests on (HolValP, KeyB, HolKey, HolSmall2, HolItP, HolPairW). No condition. -/
import Derived.Test.YtoaidbhiciaeaaaGreatOr02
import Derived.Test.YtoaidbhiciaeaaaGreatOr04
import Derived.DeepKeys4
import Derived.Test.YtoaidbhiciaeaaaGreatOr01
import Derived.RangeFuncNested
import Derived.RangeFuncBound
import Derived.RangeFuncCalls
import Derived.RangeFuncLeaves
import Derived.Shelf.Abstract
import Derived.Shelf.RegionOpen
import Derived.WalkKit
import Derived.OwnWalkIn
import Derived.TacticsInMore
import Derived.LoopNIn
import Derived.LoopIn
import Derived.Outline
import Derived.Test.YtoaidbhiciaeaaaGreatProg
section
namespace Go.Proofs.YtoaidbhiciaeaaaGreat
open Go.RowKit
set_option linter.unusedSimpArgs false
theorem all_range_false' {n k : Nat} {f : Nat → Bool} (hk : k < n) (h : f k = false) : (List.range n).all f = false := by
  rw [List.all_eq_false]
  exact ⟨k, by simpa using hk, by simp [h]⟩
def keyH (x : Hol) : Hol := ⟨x.holder, x.entity, x.date, 0⟩
def okH (n : Int) (l : List Hol) (k : Nat) : Bool := match l[k]? with
  | none => true
  | some x => properB n x && !((l.take k).any (fun a => sameH a x))
theorem okH_at {n : Int} {l : List Hol} {k : Nat} (hk : k < l.length) : okH n l k = (properB n l[k] && !((l.take k).any (fun a => sameH a l[k]))) := by
  unfold okH; rw [List.getElem?_eq_getElem hk]
def sumsB (l : List Hol) : Bool := l.all (fun x => decide (totH l x.entity x.date ≤ 10000))
def hvalidB (n : Int) (l : List Hol) : Bool := decide (1 ≤ n) && decide (n ≤ 12) && decide (l.length ≤ 200) && (List.range l.length).all (okH n l) && sumsB l
theorem hvalidB_size {n : Int} {l : List Hol} (h : ¬ (1 ≤ n ∧ n ≤ 12 ∧ l.length ≤ 200)) : hvalidB n l = false := by
  unfold hvalidB
  by_cases h1 : 1 ≤ n
  · by_cases h2 : n ≤ 12
    · have h3 : ¬ l.length ≤ 200 := fun h3 => h ⟨h1, h2, h3⟩
      simp [h3]
    · simp [h2]
  · simp [h1]
theorem hvalidB_bad {n : Int} {l : List Hol} {k : Nat} (hk : k < l.length) (h : okH n l k = false) : hvalidB n l = false := by
  unfold hvalidB
  rw [all_range_false' hk h, Bool.and_false, Bool.false_and]
theorem hvalidB_rest {n : Int} {l : List Hol} (h1 : 1 ≤ n) (h2 : n ≤ 12) (h3 : l.length ≤ 200) (h : ∀ k < l.length, okH n l k = true) : hvalidB n l = sumsB l := by
  unfold hvalidB
  rw [decide_eq_true h1, decide_eq_true h2, decide_eq_true h3, List.all_eq_true.2 (fun k hk => h k (List.mem_range.1 hk))]
  rfl
theorem properB_true {n : Int} {x : Hol} (h : properB n x = true) : 0 ≤ x.holder ∧ x.holder < n ∧ 0 ≤ x.entity ∧ x.entity < n ∧ x.holder ≠ x.entity ∧ dateB x.date = true ∧ 0 ≤ x.share ∧ x.share ≤ 10000 := by
  simp only [properB, Bool.and_eq_true, decide_eq_true_eq, bne_iff_ne] at h
  obtain ⟨⟨⟨⟨⟨⟨⟨a, b⟩, c⟩, d⟩, e⟩, f⟩, g⟩, i⟩ := h
  exact ⟨a, b, c, d, e, f, g, i⟩
theorem okH_proper {n : Int} {l : List Hol} (h : ∀ k < l.length, okH n l k = true) : ∀ x ∈ l, properB n x = true := by
  intro x hx
  obtain ⟨k, hk, rfl⟩ := List.getElem_of_mem hx
  have := h k hk
  rw [okH_at hk, Bool.and_eq_true] at this
  exact this.1
theorem ShB.of {n : Int} {l : List Hol} (h : ∀ x ∈ l, properB n x = true) : ShB l := fun x hx => by
  have := properB_true (h x hx)
  omega
theorem curH_congr {d d' : Int} {l : List Hol} (h : ∀ x ∈ l, (x.date ≤ d ↔ x.date ≤ d')) : curH d l = curH d' l := by
  induction l using snoc_ind with
  | h0 => rfl
  | h1 l x ih =>
    rw [curH_snoc, curH_snoc, ih (fun y hy => h y (by simp [hy]))]
    have := h x (by simp)
    by_cases h1 : x.date ≤ d
    · rw [if_pos h1, if_pos (this.1 h1)]
    · rw [if_neg h1, if_neg (fun h2 => h1 (this.2 h2))]
theorem totH_congr {l : List Hol} {e d d' : Int} (h : ∀ x ∈ l, x.entity = e → (x.date ≤ d ↔ x.date ≤ d')) : totH l e d = totH l e d' := by
  unfold totH sumAt
  congr 1
  apply List.map_congr_left
  intro k _
  unfold atH
  rw [curH_congr]
  intro x hx
  unfold ofPair at hx
  rw [List.mem_filter] at hx
  refine h x hx.1 ?_
  have := hx.2
  unfold pairB at this
  rw [Bool.and_eq_true] at this
  simpa using this.2
theorem latest (l : List Hol) (e d : Int) : (∀ x ∈ l, x.entity = e → ¬ x.date ≤ d) ∨ ∃ y ∈ l, y.entity = e ∧ y.date ≤ d ∧ ∀ x ∈ l, x.entity = e → x.date ≤ d → x.date ≤ y.date := by
  induction l with
  | nil => exact .inl (fun x hx => by cases hx)
  | cons a l ih =>
    by_cases ha : a.entity = e ∧ a.date ≤ d
    · right
      rcases ih with ih | ⟨y, hy, h1, h2, h3⟩
      · refine ⟨a, by simp, ha.1, ha.2, fun x hx he hd => ?_⟩
        rcases List.mem_cons.1 hx with rfl | hx
        · exact Int.le_refl _
        · exact absurd hd (ih x hx he)
      · by_cases hc : y.date ≤ a.date
        · refine ⟨a, by simp, ha.1, ha.2, fun x hx he hd => ?_⟩
          rcases List.mem_cons.1 hx with rfl | hx
          · exact Int.le_refl _
          · have := h3 x hx he hd; omega
        · refine ⟨y, by simp [hy], h1, h2, fun x hx he hd => ?_⟩
          rcases List.mem_cons.1 hx with rfl | hx
          · omega
          · exact h3 x hx he hd
    · rcases ih with ih | ⟨y, hy, h1, h2, h3⟩
      · left
        intro x hx he hd
        rcases List.mem_cons.1 hx with rfl | hx
        · exact ha ⟨he, hd⟩
        · exact ih x hx he hd
      · right
        refine ⟨y, by simp [hy], h1, h2, fun x hx he hd => ?_⟩
        rcases List.mem_cons.1 hx with rfl | hx
        · exact absurd ⟨he, hd⟩ ha
        · exact h3 x hx he hd
theorem totH_none {l : List Hol} {e d : Int} (h : ∀ x ∈ l, x.entity = e → ¬ x.date ≤ d) : totH l e d = 0 := by
  have h0 : ∀ k, atH l k e d = 0 := fun k => by
    unfold atH
    cases hc : curH d (ofPair l k e) with
    | none => rfl
    | some m =>
      exfalso
      have h2 : ∀ (l2 : List Hol), (∀ x ∈ l2, ¬ x.date ≤ d) → curH d l2 = none := by
        intro l2
        induction l2 using snoc_ind with
        | h0 => intro _; rfl
        | h1 l2 x ih => intro hh; rw [curH_late (hh x (by simp)), ih (fun y hy => hh y (by simp [hy]))]
      rw [h2 _ (fun x hx => ?_)] at hc
      · cases hc
      · unfold ofPair at hx
        rw [List.mem_filter] at hx
        refine h x hx.1 ?_
        have := hx.2
        unfold pairB at this
        rw [Bool.and_eq_true] at this
        simpa using this.2
  unfold totH sumAt
  have : ∀ hs : List Int, (hs.map fun k => atH l k e d).sum = 0 := by
    intro hs
    induction hs with
    | nil => rfl
    | cons a hs ih => rw [List.map_cons, List.sum_cons, h0, ih]; rfl
  exact this _
theorem sums_all {l : List Hol} (h : sumsB l = true) (e d : Int) : totH l e d ≤ 10000 := by
  rcases latest l e d with h1 | ⟨y, hy, h1, h2, h3⟩
  · rw [totH_none h1]; decide
  · have h4 : totH l e d = totH l e y.date := totH_congr (fun x hx he => ⟨fun hd => h3 x hx he hd, fun hd => by omega⟩)
    rw [h4, ← h1]
    unfold sumsB at h
    rw [List.all_eq_true] at h
    simpa using h y hy
theorem sums_bad {l : List Hol} {e d : Int} (h : ¬ totH l e d ≤ 10000) : sumsB l = false := by
  rw [Bool.eq_false_iff]
  intro hs
  exact h (sums_all hs e d)
theorem sums_good {l : List Hol} (h : ∀ x ∈ l, totH l x.entity x.date ≤ 10000) : sumsB l = true := by
  unfold sumsB
  rw [List.all_eq_true]
  intro x hx
  simpa using h x hx
def seenH (l : List Hol) : Hol → Option Value := fun k => if l.any (fun x => sameH x k) && k.share == 0 then some (.bool true) else none
theorem seenH_nil : seenH [] = fun _ => none := by funext k; simp [seenH]
theorem seenH_get (l : List Hol) (x : Hol) : (seenH l (keyH x)).getD (.bool false) = .bool (l.any (fun a => sameH a x)) := by
  unfold seenH
  have : (l.any fun a => sameH a (keyH x)) = l.any (fun a => sameH a x) := rfl
  rw [this]
  cases l.any (fun a => sameH a x) <;> simp [keyH]
theorem seenH_snoc (l : List Hol) (x : Hol) : seenH (l ++ [x]) (keyH x) = some (.bool true) ∧ ∀ k, k ≠ keyH x → seenH (l ++ [x]) k = seenH l k := by
  refine ⟨by simp [seenH, sameH, keyH], fun k hk => ?_⟩
  unfold seenH
  have : (sameH x k && k.share == 0) = false := by
    rw [Bool.eq_false_iff]
    intro h
    apply hk
    obtain ⟨k0, k1, k2, k3⟩ := k
    simp only [sameH, Bool.and_eq_true, beq_iff_eq] at h
    obtain ⟨⟨⟨a, b⟩, c⟩, d⟩ := h
    simp [keyH, a, b, c, d]
  have h2 : ((l ++ [x]).any (fun a => sameH a k) && k.share == 0) = (l.any (fun a => sameH a k) && k.share == 0) := by
    rw [List.any_append]
    simp only [List.any_cons, List.any_nil, Bool.or_false]
    cases h3 : l.any (fun a => sameH a k) <;> simp_all
  rw [h2]
end Go.Proofs.YtoaidbhiciaeaaaGreat

end
section
namespace Go.Proofs.YtoaidbhiciaeaaaGreat
open Go.RowKit Go.Maps
theorem keyLits_int {P : Program} {d : Nat} {t : TypeId} {x : Int} (hu : P.underlying t = some (.int .i64)) (h : I64 x) : P.keyLits (d + 1) t [.int .i64 x] = some [.int .i64 x] := by
  have hw := wf64.2 h
  unfold Program.keyLits
  rw [hu]
  simp [hw]
theorem laidOutK : laidOutB Tryz.prog = true := by kernel_rfl
end Go.Proofs.YtoaidbhiciaeaaaGreat

end
section
namespace Go.Proofs.YtoaidbhiciaeaaaGreat
open Go.RowKit Go.Maps
theorem keyOf_hol {a b c d : Int} (ha : I64 a) (hb : I64 b) (hc : I64 c) (hd : I64 d) : keyOf Tryz.prog 101 (.agg #[.int .i64 a, .int .i64 b, .int .i64 c, .int .i64 d]) = some (.string (keyBytes [.int .i64 a, .int .i64 b, .int .i64 c, .int .i64 d])) := by
  unfold keyOf
  rw [Tryz.underlying101]
  have h1 : Tryz.prog.keyType 101 = true := by kernel_rfl
  have h2 : (Value.agg #[.int .i64 a, .int .i64 b, .int .i64 c, .int .i64 d]).formed Tryz.prog 101 = true := by
    have : Tryz.prog.cellsOf 101 = 4 := by kernel_rfl
    simp [Value.formed, Tryz.underlying101, this]
  have hs : Tryz.prog.types.size = (Tryz.prog.types.size - 1) + 1 := by
    have : 0 < Tryz.prog.types.size := of_decide_eq_true (by kernel_rfl)
    omega
  have h3 : Tryz.prog.keyLits (Tryz.prog.types.size + 1) 101 [.int .i64 a, .int .i64 b, .int .i64 c, .int .i64 d] = some [.int .i64 a, .int .i64 b, .int .i64 c, .int .i64 d] := by
    have hi : ∀ d x, I64 x → Tryz.prog.keyLits (d + 1) 3 [.int .i64 x] = some [.int .i64 x] := fun d x h => keyLits_int Tryz.underlying3 h
    have c4 : Tryz.prog.cellsOf 101 = 4 := by kernel_rfl
    have c1 : Tryz.prog.cellsOf 3 = 1 := by kernel_rfl
    unfold Program.keyLits
    rw [Tryz.underlying101]
    rw [hs]
    simp [c4, c1, hi, ha, hb, hc, hd]
  simp only [h1, h2, Bool.and_self, if_true]
  show (Tryz.prog.keyLits (Tryz.prog.types.size + 1) 101 [.int .i64 a, .int .i64 b, .int .i64 c, .int .i64 d]).map _ = _
  rw [h3]
  rfl
theorem holKeyed : Keyed Tryz.prog 101 := Keyed.of_law (deep_law_laid laidOutK (m := 2) (by omega) (of_decide_eq_true (by kernel_rfl)) (by kernel_rfl) (by rw [Tryz.underlying101]))
def holK : KeyEnc Tryz.prog 101 Hol where
  enc l := .agg #[.int .i64 l.holder, .int .i64 l.entity, .int .i64 l.date, .int .i64 l.share]
  lit l := .string (keyBytes [.int .i64 l.holder, .int .i64 l.entity, .int .i64 l.date, .int .i64 l.share])
  ok l := I64 l.holder ∧ I64 l.entity ∧ I64 l.date ∧ I64 l.share
  keyed := holKeyed
  key l h := keyOf_hol h.1 h.2.1 h.2.2.1 h.2.2.2
  inj a b _ _ h := by
    obtain ⟨a0, a1, a2, a3⟩ := a
    obtain ⟨b0, b1, b2, b3⟩ := b
    simpa using h
end Go.Proofs.YtoaidbhiciaeaaaGreat

end
section
namespace Go.Proofs.YtoaidbhiciaeaaaGreat
open Go.RowKit
set_option linter.unusedSimpArgs false
set_option linter.unusedVariables false
theorem inside_any (k n : Int) (B : Nat) (w : World) (hc : w.cell? ⟨B, 0, none⟩ = some (.int .i64 n)) :
    Calls Tryz.prog 108 #[.int .i64 k, .pointer (some ⟨B, 0, none⟩)] w fun en w' => en = .returned (.bool (decide (0 ≤ k) && decide (k < n))) ∧ w = w' := by
  by_cases h : 0 ≤ k
  · have hd : decide (0 ≤ k) = true := decide_eq_true h
    rw [hd, Bool.true_and]
    go_enter Tryz.func108, Tryz.ntmps108
    go_wp2
    go_ret
    exact ⟨rfl, rfl⟩
  · have hd : decide (0 ≤ k) = false := decide_eq_false h
    rw [hd, Bool.false_and]
    go_enter Tryz.func108, Tryz.ntmps108
    go_wp2
    go_ret
    exact ⟨rfl, rfl⟩
set_option maxRecDepth 100000 in
set_option maxHeartbeats 4000000 in
theorem properH_any (n : Int) (x : Hol) (w : World) : Calls Tryz.prog 66 #[.int .i64 n, .agg #[.int .i64 x.holder, .int .i64 x.entity, .int .i64 x.date, .int .i64 x.share]] w fun e w' => e = .returned (.bool (properB n x)) ∧ Keeps w w' := by
  obtain ⟨dv, hdv⟩ : ∃ dv, dateB x.date = dv := ⟨_, rfl⟩
  have HD : Hid (∀ W, Calls Tryz.prog 109 #[.int .i64 x.date] W fun e w' => e = .returned (.bool dv) ∧ W = w') := Lib.hid (fun W => by have := hdate_any x.date W; rw [hdv] at this; exact this)
  obtain ⟨p, hp⟩ : ∃ p, (decide (0 ≤ x.holder) && decide (x.holder < n)) = p := ⟨_, rfl⟩
  have HO : Hid (∀ W, W.cell? ⟨w.heap.size, 0, none⟩ = some (.int .i64 n) → Calls Tryz.prog 108 #[.int .i64 x.holder, .pointer (some ⟨w.heap.size, 0, none⟩)] W fun en w' => en = .returned (.bool p) ∧ W = w') := Lib.hid (fun W h => by have := inside_any x.holder n w.heap.size W h; rw [hp] at this; exact this)
  obtain ⟨q, hq⟩ : ∃ q, (decide (0 ≤ x.entity) && decide (x.entity < n)) = q := ⟨_, rfl⟩
  have HE : Hid (∀ W, W.cell? ⟨w.heap.size, 0, none⟩ = some (.int .i64 n) → Calls Tryz.prog 108 #[.int .i64 x.entity, .pointer (some ⟨w.heap.size, 0, none⟩)] W fun en w' => en = .returned (.bool q) ∧ W = w') := Lib.hid (fun W h => by have := inside_any x.entity n w.heap.size W h; rw [hq] at this; exact this)
  have hfin : properB n x = (p && q && (x.holder != x.entity) && dv && decide (0 ≤ x.share) && decide (x.share ≤ 10000)) := by
    unfold properB
    rw [hp, hdv, ← hq, ← Bool.and_assoc]
  clear hp hq hdv
  cases p with
  | false =>
    have HQ : Hid (properB n x = false) := Lib.hid (by rw [hfin]; simp only [Bool.false_and])
    clear hfin
    go_enter Tryz.func66, Tryz.ntmps66
    go_wp2_with (first | (go_at_call 109; refine (HD.out _).mono ?_; rintro e w1 ⟨rfl, rfl⟩) | (go_at_call 108; (with_reducible refine (HE.out _ (by go_simp)).mono ?_); rintro e w1 ⟨rfl, rfl⟩) | (go_at_call 108; (with_reducible refine (HO.out _ (by go_simp)).mono ?_); rintro e w1 ⟨rfl, rfl⟩))
    go_ret
    rw [HQ.out]
    exact ⟨rfl, ((Keeps.refl w).alloc _).alloc _⟩
  | true =>
    cases q with
    | false =>
      have HQ : Hid (properB n x = false) := Lib.hid (by rw [hfin]; simp only [Bool.false_and, Bool.and_false])
      clear hfin
      go_enter Tryz.func66, Tryz.ntmps66
      go_wp2_with (first | (go_at_call 109; refine (HD.out _).mono ?_; rintro e w1 ⟨rfl, rfl⟩) | (go_at_call 108; (with_reducible refine (HE.out _ (by go_simp)).mono ?_); rintro e w1 ⟨rfl, rfl⟩) | (go_at_call 108; (with_reducible refine (HO.out _ (by go_simp)).mono ?_); rintro e w1 ⟨rfl, rfl⟩))
      go_ret
      rw [HQ.out]
      exact ⟨rfl, ((Keeps.refl w).alloc _).alloc _⟩
    | true =>
      cases h5 : (x.holder != x.entity) with
      | false =>
        have HQ : Hid (properB n x = false) := Lib.hid (by rw [hfin, h5]; simp only [Bool.false_and, Bool.and_false])
        clear hfin
        go_enter Tryz.func66, Tryz.ntmps66
        go_wp2_with (first | (go_at_call 109; refine (HD.out _).mono ?_; rintro e w1 ⟨rfl, rfl⟩) | (go_at_call 108; (with_reducible refine (HE.out _ (by go_simp)).mono ?_); rintro e w1 ⟨rfl, rfl⟩) | (go_at_call 108; (with_reducible refine (HO.out _ (by go_simp)).mono ?_); rintro e w1 ⟨rfl, rfl⟩))
        go_ret
        rw [HQ.out]
        exact ⟨rfl, ((Keeps.refl w).alloc _).alloc _⟩
      | true =>
        cases dv with
        | false =>
          have HQ : Hid (properB n x = false) := Lib.hid (by rw [hfin]; simp only [Bool.false_and, Bool.and_false])
          clear hfin
          go_enter Tryz.func66, Tryz.ntmps66
          go_wp2_with (first | (go_at_call 109; refine (HD.out _).mono ?_; rintro e w1 ⟨rfl, rfl⟩) | (go_at_call 108; (with_reducible refine (HE.out _ (by go_simp)).mono ?_); rintro e w1 ⟨rfl, rfl⟩) | (go_at_call 108; (with_reducible refine (HO.out _ (by go_simp)).mono ?_); rintro e w1 ⟨rfl, rfl⟩))
          go_ret
          rw [HQ.out]
          exact ⟨rfl, ((Keeps.refl w).alloc _).alloc _⟩
        | true =>
          by_cases h6 : 0 ≤ x.share
          · have HQ : Hid (properB n x = decide (x.share ≤ 10000)) := Lib.hid (by rw [hfin, h5, decide_eq_true h6]; simp only [Bool.true_and])
            clear hfin
            go_enter Tryz.func66, Tryz.ntmps66
            go_wp2_with (first | (go_at_call 109; refine (HD.out _).mono ?_; rintro e w1 ⟨rfl, rfl⟩) | (go_at_call 108; (with_reducible refine (HE.out _ (by go_simp)).mono ?_); rintro e w1 ⟨rfl, rfl⟩) | (go_at_call 108; (with_reducible refine (HO.out _ (by go_simp)).mono ?_); rintro e w1 ⟨rfl, rfl⟩))
            go_ret
            rw [HQ.out]
            exact ⟨rfl, ((Keeps.refl w).alloc _).alloc _⟩
          · have HQ : Hid (properB n x = false) := Lib.hid (by rw [hfin, decide_eq_false h6]; simp only [Bool.false_and, Bool.and_false])
            clear hfin
            go_enter Tryz.func66, Tryz.ntmps66
            go_wp2_with (first | (go_at_call 109; refine (HD.out _).mono ?_; rintro e w1 ⟨rfl, rfl⟩) | (go_at_call 108; (with_reducible refine (HE.out _ (by go_simp)).mono ?_); rintro e w1 ⟨rfl, rfl⟩) | (go_at_call 108; (with_reducible refine (HO.out _ (by go_simp)).mono ?_); rintro e w1 ⟨rfl, rfl⟩))
            go_ret
            rw [HQ.out]
            exact ⟨rfl, ((Keeps.refl w).alloc _).alloc _⟩
end Go.Proofs.YtoaidbhiciaeaaaGreat

end
section
namespace Go.Proofs.YtoaidbhiciaeaaaGreat
open Go.RowKit
structure KeepBut (N lo hi : Nat) (A C : World) : Prop where
  size : A.heap.size ≤ C.heap.size
  same : ∀ k, k < N → (k < lo ∨ hi ≤ k) → C.heap[k]? = A.heap[k]?
variable {N lo hi : Nat} {A B C : World}
theorem KeepBut.refl (N lo hi : Nat) (A : World) : KeepBut N lo hi A A := ⟨Nat.le_refl _, fun _ _ _ => rfl⟩
theorem KeepBut.trans (h : KeepBut N lo hi A B) (k : KeepBut N lo hi B C) : KeepBut N lo hi A C := ⟨Nat.le_trans h.size k.size, fun i h1 h2 => (k.same i h1 h2).trans (h.same i h1 h2)⟩
theorem KeepBut.alloc (h : KeepBut N lo hi A B) (hN : N ≤ B.heap.size) (o : Obj) : KeepBut N lo hi A (B.alloc o) :=
  ⟨by simp; have := h.size; omega, fun k h1 h2 => (Below.heap_alloc B o k (by omega)).trans (h.same k h1 h2)⟩
theorem KeepBut.setCell (h : KeepBut N lo hi A B) {p : Addr} (hp : lo ≤ p.block) (hq : p.block < hi) (v : Value) : KeepBut N lo hi A (B.setCell p v) :=
  ⟨by have := h.size; simpa [World.setCell] using this, fun k h1 h2 => (Below.heap_setCell B p v k (by omega)).trans (h.same k h1 h2)⟩
theorem KeepBut.putObj (W : World) (l : Nat) (o' : Obj) (hl : N ≤ l) : KeepBut N lo hi W (W.putObj l o') :=
  ⟨by simp, fun k h1 _ => World.putObj_heap_other (by omega)⟩
theorem KeepBut.drew (h : KeepBut N lo hi A B) : KeepBut N lo hi A B.drew := ⟨h.size, h.same⟩
theorem KeepBut.cell (h : KeepBut N lo hi A B) {p : Addr} (hp : p.block < N) (hq : p.block < lo ∨ hi ≤ p.block) {v : Value} (hc : A.cell? p = some v) : B.cell? p = some v := by
  have := h.same p.block hp hq
  rw [← hc]
  unfold World.cell?
  rw [this]
theorem KeepBut.hols {ao : Option Addr} {l : List Hol} {cap b o : Nat} (h : KeepBut N lo hi A B) (hp : b < N) (hq : b < lo ∨ hi ≤ b) (H : Hols A ao l cap b o) : Hols B ao l cap b o :=
  ⟨H.len, H.le, H.nocap, H.cap, H.addr, fun j u hu => h.cell (p := ⟨b, o + j, none⟩) hp hq (Sl.cell H j u hu)⟩
end Go.Proofs.YtoaidbhiciaeaaaGreat

end
section
namespace Go.Proofs.YtoaidbhiciaeaaaGreat
open Go.RowKit Go.Shelf
attribute [local go_sem] Oper.semAt_some
set_option linter.unusedSimpArgs false
set_option linter.unusedVariables false
set_option maxHeartbeats 1000000 in
theorem pair_in (F : Fence) (n : Nat) (h1 : F.fn 150) (hro : F.round = none) (ao : Option Addr) (len cap : Nat) (h e : Int) (w : World) :
    CallsIn F n Tryz.prog 150 #[.slice ao len cap, .int .i64 h, .int .i64 e] w fun en w' => en = .returned (.func (.func 173) #[] #[.pointer (some ⟨w.heap.size, 0, none⟩), .pointer (some ⟨w.heap.size + 1, 0, none⟩), .pointer (some ⟨w.heap.size + 1 + 1, 0, none⟩)]) ∧
      w' = ((w.alloc (.cells #[.slice ao len cap] 32)).alloc (.cells #[.int .i64 h] 3)).alloc (.cells #[.int .i64 e] 3) := by
  refine callsIn_of_wp Tryz.func150 rfl h1 ?_ hro
  simp only [Tryz.ntmps150, List.size_toArray, List.length_cons, List.length_nil, Nat.reduceAdd, Nat.reduceSub, Array.replicate_succ, Array.replicate_zero, List.push_toArray, List.append_toArray, List.nil_append, List.cons_append]
  gi_wp2
  go_ret
  exact ⟨rfl, rfl⟩
structure PairG (W : World) (B0 : Nat) (ao : Option Addr) (xs : List Hol) (cap b o : Nat) (h e : Int) : Prop where
  c0 : W.cell? ⟨B0, 0, none⟩ = some (.slice ao xs.length cap)
  c1 : W.cell? ⟨B0 + 1, 0, none⟩ = some (.int .i64 h)
  c2 : W.cell? ⟨B0 + 1 + 1, 0, none⟩ = some (.int .i64 e)
  hs : Hols W ao xs cap b o
set_option maxRecDepth 100000 in
set_option maxHeartbeats 2000000 in
theorem pair1_in (F : Fence) (n : Nat) (h1 : F.fn 173) (hro : F.round = none) (hn : 1 ≤ n) (l B0 N0 lo hi : Nat) (ao : Option Addr) (xs : List Hol) (cap b o : Nat) (h e : Int) (J Jx : List Hol → World → Prop)
    (hB0 : B0 + 1 + 1 < N0) (hhi : hi ≤ B0) (hbN : xs.length ≠ 0 → b < N0) (hb : xs.length ≠ 0 → b < lo)
    (hY : ∀ pre x W, J pre W → pre.length < xs.length → YieldAt F (n - 1) Tryz.prog l #[x.val] W fun en W' =>
      (en = .returned (.bool true) ∧ J (pre ++ [x]) W' ∧ KeepBut N0 lo hi W W') ∨ (en = .returned (.bool false) ∧ Jx (pre ++ [x]) W'))
    (W : World) (hJ : AbidesFrom W.heap.size J) (hN : N0 ≤ W.heap.size) (hG : PairG W B0 ao xs cap b o h e) (h0 : J [] W) :
    CallsIn F n Tryz.prog 173 #[.func (.yield l) #[] #[], .pointer (some ⟨B0, 0, none⟩), .pointer (some ⟨B0 + 1, 0, none⟩), .pointer (some ⟨B0 + 1 + 1, 0, none⟩)] W fun en W' => (∃ v, en = .returned v) ∧
      ((∃ ys, ys = ofPair xs h e ∧ J ys W') ∨ (∃ pre, pre <+: ofPair xs h e ∧ Jx pre W')) := by
  have hcap := Sl.cap hG.hs
  have hle := Sl.le hG.hs
  have c0 := hG.c0
  have HG := Lib.hid hG
  have HJ := Lib.hid hJ
  have HY := Lib.hid hY
  clear hG hJ hY
  refine callsIn_of_wp Tryz.func173 rfl h1 ?_ hro
  simp only [Tryz.ntmps173, List.size_toArray, List.length_cons, List.length_nil, Nat.reduceAdd, Nat.reduceSub, Array.replicate_succ, Array.replicate_zero, List.push_toArray, List.append_toArray, List.nil_append, List.cons_append]
  gi_wp2
  gi_loopw [9] (fun vi wr => ∃ k : Nat, k ≤ xs.length ∧ vi = .int .i64 k ∧ Hid (J (ofPair (xs.take k) h e) wr ∧ KeepBut N0 lo hi W wr ∧ W.heap.size ≤ wr.heap.size)) (fun vi _ => xs.length - (intOf vi).toNat)
  case atStart => exact ⟨0, Nat.zero_le _, rfl, Lib.hid ⟨h0, KeepBut.refl _ _ _ _, Nat.le_refl _⟩⟩
  case round =>
    obtain ⟨k, hk, rfl, HW⟩ := hrel
    by_cases hlt : k < xs.length
    · have hL : Hols wr ao xs cap b o := HW.out.2.1.hols (hbN (by omega)) (.inl (hb (by omega))) HG.out.hs
      have hix := Sl.at hL Tryz.underlying32 Tryz.sizeOf101 k hlt
      have l0 := hL.cell Hol.len k hlt 0 _ rfl
      have l1 := hL.cell Hol.len k hlt 1 _ rfl
      have l2 := hL.cell Hol.len k hlt 2 _ rfl
      have l3 := hL.cell Hol.len k hlt 3 _ rfl
      simp only [Nat.add_zero] at l0
      have d1 := HW.out.2.1.cell (p := ⟨B0 + 1, 0, none⟩) (by show B0 + 1 < N0; omega) (.inr (by show hi ≤ B0 + 1; omega)) HG.out.c1
      have d2 := HW.out.2.1.cell (p := ⟨B0 + 1 + 1, 0, none⟩) (by show B0 + 1 + 1 < N0; omega) (.inr (by show hi ≤ B0 + 1 + 1; omega)) HG.out.c2
      have hb1 := World.block_lt_of_cell? _ _ d1
      have hb2 := World.block_lt_of_cell? _ _ d2
      have hw2 := HW.out.2.2
      clear hL
      have HJ2 : Hid (J (ofPair (xs.take k) h e) (wr.alloc (.cells #[.int .i64 xs[k].holder, .int .i64 xs[k].entity, .int .i64 xs[k].date, .int .i64 xs[k].share] 101)) ∧ KeepBut N0 lo hi W (wr.alloc (.cells #[.int .i64 xs[k].holder, .int .i64 xs[k].entity, .int .i64 xs[k].date, .int .i64 xs[k].share] 101))) :=
        Lib.hid ⟨HJ.out _ _ _ none HW.out.1 (World.grownBy_alloc wr _ none) (fun r e => by cases e), HW.out.2.1.alloc (by omega) _⟩
      cases p1 : (xs[k].holder == h) with
      | false =>
        have hp : Hid (ofPair (xs.take (k + 1)) h e = ofPair (xs.take k) h e) := Lib.hid (by rw [take_snoc _ _ hlt]; exact ofPair_no (by unfold pairB; rw [p1]; rfl))
        gi_wp2
        all_goals
          refine ⟨fun _ h => (by cases h), ?_⟩
          gi_wp2
          go_roundw
          case rel => exact ⟨k + 1, by omega, by go_num, Lib.hid ⟨by rw [hp.out]; exact HJ2.out.1, HJ2.out.2, by simp; omega⟩⟩
          case measure => simp [intOf]; omega
      | true =>
        cases p2 : (xs[k].entity == e) with
        | false =>
          have hp : Hid (ofPair (xs.take (k + 1)) h e = ofPair (xs.take k) h e) := Lib.hid (by rw [take_snoc _ _ hlt]; exact ofPair_no (by unfold pairB; rw [p1, p2]; rfl))
          gi_wp2
          all_goals
            refine ⟨fun _ h => (by cases h), ?_⟩
            gi_wp2
            go_roundw
            case rel => exact ⟨k + 1, by omega, by go_num, Lib.hid ⟨by rw [hp.out]; exact HJ2.out.1, HJ2.out.2, by simp; omega⟩⟩
            case measure => simp [intOf]; omega
        | true =>
          have hp : Hid (ofPair (xs.take (k + 1)) h e = ofPair (xs.take k) h e ++ [xs[k]]) := Lib.hid (by rw [take_snoc _ _ hlt]; exact ofPair_yes (by unfold pairB; rw [p1, p2]; rfl))
          have hlen : (ofPair (xs.take k) h e).length < xs.length := by
            have h1 := ofPair_len (xs.take k) h e
            rw [List.length_take] at h1
            omega
          obtain ⟨fn, tmps, assign, body, hy, hR⟩ := HY.out _ xs[k] _ HJ2.out.1 hlen
          have HR := Lib.hid hR
          simp only [Hol.val] at hy
          have hw3 : W.heap.size ≤ (wr.alloc (.cells #[.int .i64 xs[k].holder, .int .i64 xs[k].entity, .int .i64 xs[k].date, .int .i64 xs[k].share] 101)).heap.size := by simp; omega
          clear hR
          gi_wp2
          refine HR.out.mono ?_
          rintro en W3 (⟨rfl, hJ3, hk3⟩ | ⟨rfl, hJx3⟩)
          · have hw4 := hk3.size
            gi_wp2
            go_roundw
            case rel => exact ⟨k + 1, by omega, by go_num, Lib.hid ⟨by rw [hp.out]; exact hJ3, HJ2.out.2.trans hk3, by omega⟩⟩
            case measure => simp [intOf]; omega
          · have hpre : Hid (ofPair (xs.take k) h e ++ [xs[k]] <+: ofPair xs h e) := Lib.hid (by rw [← hp.out]; exact (List.take_prefix _ _).filter _)
            gi_wp2
            refine bodyPost_ret (results_none rfl _ _ _) rfl ?_
            exact ⟨⟨_, rfl⟩, .inr ⟨_, hpre.out, hJx3⟩⟩
    · obtain rfl : k = xs.length := by omega
      have hp : Hid (ofPair (xs.take xs.length) h e = ofPair xs h e) := Lib.hid (by rw [List.take_length])
      gi_wp2
      go_end0
      exact ⟨⟨_, rfl⟩, .inl ⟨_, rfl, by rw [← hp.out]; exact HW.out.1⟩⟩
theorem pair_stops (F : Fence) (n : Nat) (h1 : F.fn 173) (hro : F.round = none) (hn : 1 ≤ n) (B0 lo hi : Nat) (ao : Option Addr) (xs : List Hol) (cap b o : Nat) (h e : Int) (w : World)
    (hB0 : B0 + 1 + 1 < w.heap.size) (hhi : hi ≤ B0) (hbN : xs.length ≠ 0 → b < w.heap.size) (hb : xs.length ≠ 0 → b < lo) (hG : PairG w B0 ao xs cap b o h e) :
    SeqStopsK F n Tryz.prog 173 #[.pointer (some ⟨B0, 0, none⟩), .pointer (some ⟨B0 + 1, 0, none⟩), .pointer (some ⟨B0 + 1 + 1, 0, none⟩)] (fun x : Hol => #[.agg #[.int .i64 x.holder, .int .i64 x.entity, .int .i64 x.date, .int .i64 x.share]]) (KeepBut w.heap.size lo hi) (fun ys => ys = ofPair xs h e) (fun pre => pre <+: ofPair xs h e) xs.length w :=
  fun l J Jx W hW hJ hJx hY h0 => by
    have hc : ∀ p : Addr, p.block < w.heap.size → ∀ v, w.cell? p = some v → W.cell? p = some v := fun p hp v hv => (hW.cell hp).trans hv
    refine pair1_in F n h1 hro hn l B0 w.heap.size lo hi ao xs cap b o h e J Jx hB0 hhi hbN hb (fun pre x W1 hj hl => ?_) W hJ hW.size ⟨hc _ (by show B0 < _; omega) _ hG.c0, hc _ (by show B0 + 1 < _; omega) _ hG.c1, hc _ hB0 _ hG.c2, ⟨hG.hs.len, hG.hs.le, hG.hs.nocap, hG.hs.cap, hG.hs.addr, fun j u hu => hc ⟨b, o + j, none⟩ (hbN (fun e0 => by
      have := Sl.len hG.hs
      rw [e0] at this
      have h2 : xs.flatMap Hol.cells = [] := List.eq_nil_of_length_eq_zero (by omega)
      rw [h2] at hu; simp at hu)) u (Sl.cell hG.hs j u hu)⟩⟩ h0
    exact hY pre x W1 hj hl
end Go.Proofs.YtoaidbhiciaeaaaGreat

end
