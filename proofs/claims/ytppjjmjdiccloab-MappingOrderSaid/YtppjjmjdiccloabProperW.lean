/- Proper accounts: the walks. -/
import Derived.Test.YtppjjmjdiccloabChartP
namespace Go.Proofs.Ytppjjmjdiccloab
open Go.RowKit
set_option linter.unusedSimpArgs false
set_option linter.unusedVariables false

theorem find_none (l : List Acc) (code : Int) (ao : Option Addr) (cap b o : Nat) (w : World) (H : Accs w ao l cap b o) (hf : findA l code = none) :
    Calls Try.prog 25 #[.slice ao l.length cap, .int .i64 code] w fun e w' => e = .returned (.tuple #[.agg #[.int .i64 0, .int .i64 0, .int .i64 0, .int .i64 0], .bool false]) ∧ Keeps w w' := by
  have := rfind_any l code ao cap b o w H; rw [hf] at this; exact this
theorem find_some (l : List Acc) (code : Int) (p : Acc) (ao : Option Addr) (cap b o : Nat) (w : World) (H : Accs w ao l cap b o) (hf : findA l code = some p) :
    Calls Try.prog 25 #[.slice ao l.length cap, .int .i64 code] w fun e w' => e = .returned (.tuple #[.agg #[.int .i64 p.code, .int .i64 p.kind, .int .i64 p.basis, .int .i64 p.parent], .bool true]) ∧ Keeps w w' := by
  have := rfind_any l code ao cap b o w H; rw [hf] at this; exact this

set_option maxRecDepth 100000 in
set_option maxHeartbeats 2000000 in
theorem rproper_bad (l : List Acc) (a : Acc) (group : Bool) (v : Value) (w : World) (hb : basicB a group = false) :
    Calls Try.prog 39 #[v, .agg #[.int .i64 a.code, .int .i64 a.kind, .int .i64 a.basis, .int .i64 a.parent], .bool group] w fun e w' => e = .returned (.bool false) ∧ Keeps w w' := by
  by_cases h1 : 1 ≤ a.code ∧ a.code ≤ 99999 ∧ 1 ≤ a.kind ∧ a.kind ≤ 5
  · obtain ⟨h1, h2, h3, h4⟩ := h1
    cases group with
    | true =>
      have h5 : a.basis < 1 ∨ 3 < a.basis := by
        simp [basicB, h1, h2, h3, h4] at hb; omega
      clear hb
      rcases h5 with h5 | h5
      · go_enter Try.func39, Try.ntmps39
        go_wp2
        go_ret
        exact ⟨rfl, (Keeps.refl w).alloc _⟩
      · go_enter Try.func39, Try.ntmps39
        go_wp2
        go_ret
        exact ⟨rfl, (Keeps.refl w).alloc _⟩
    | false =>
      have h5 : a.basis ≠ 0 := by
        simp [basicB, h1, h2, h3, h4] at hb; exact hb
      have e5 : (a.basis != 0) = true := by simpa using h5
      clear hb h5
      go_enter Try.func39, Try.ntmps39
      go_wp2
      go_ret
      exact ⟨rfl, (Keeps.refl w).alloc _⟩
  · clear hb
    go_enter Try.func39, Try.ntmps39
    by_cases g1 : a.code < 1
    · go_wp2
      go_ret
      exact ⟨rfl, (Keeps.refl w).alloc _⟩
    · by_cases g2 : 99999 < a.code
      · go_wp2
        go_ret
        exact ⟨rfl, (Keeps.refl w).alloc _⟩
      · by_cases g3 : a.kind < 1
        · go_wp2
          go_ret
          exact ⟨rfl, (Keeps.refl w).alloc _⟩
        · have g4 : 5 < a.kind := by omega
          clear h1
          go_wp2
          go_ret
          exact ⟨rfl, (Keeps.refl w).alloc _⟩

set_option maxRecDepth 100000 in
set_option maxHeartbeats 2000000 in
theorem rproper_any (l : List Acc) (a : Acc) (group : Bool) (ao : Option Addr) (cap b o : Nat) (w : World) (H : Accs w ao l cap b o) :
    Calls Try.prog 39 #[.slice ao l.length cap, .agg #[.int .i64 a.code, .int .i64 a.kind, .int .i64 a.basis, .int .i64 a.parent], .bool group] w fun e w' => e = .returned (.bool (properRB l a group)) ∧ Keeps w w' := by
  cases hb : basicB a group with
  | false => simp only [properRB, hb, Bool.false_and]; exact rproper_bad l a group _ w hb
  | true =>
    simp only [properRB, hb, Bool.true_and]
    simp only [basicB, Bool.and_eq_true, decide_eq_true_eq] at hb
    obtain ⟨⟨⟨⟨h1, h2⟩, h3⟩, h4⟩, h5⟩ := hb
    by_cases hp : a.parent = 0
    · have ep : (a.parent == 0) = true := by simp [hp]
      rw [ep, Bool.true_or]
      clear ep
      cases group with
      | true =>
        simp only [if_true, Bool.and_eq_true, decide_eq_true_eq] at h5
        obtain ⟨h5, h6⟩ := h5
        go_enter Try.func39, Try.ntmps39
        go_wp2
        go_ret
        exact ⟨rfl, (Keeps.refl w).alloc _⟩
      | false =>
        simp only [Bool.false_eq_true, if_false, decide_eq_true_eq] at h5
        go_enter Try.func39, Try.ntmps39
        go_wp2
        go_ret
        exact ⟨rfl, (Keeps.refl w).alloc _⟩
    · have ep : (a.parent == 0) = false := by simpa using hp
      rw [ep, Bool.false_or]
      cases hf : findA l a.parent with
      | none =>
        have er : aboveB l a = false := by unfold aboveB; rw [hf]
        rw [er]
        cases group with
        | true =>
          simp only [if_true, Bool.and_eq_true, decide_eq_true_eq] at h5
          obtain ⟨h5, h6⟩ := h5
          go_enter Try.func39, Try.ntmps39
          go_wp2_with (go_at_call 25; refine (find_none l a.parent ao cap b o _ (H.keeps ((Keeps.refl w).alloc _)) hf).mono ?_; rintro e1 w1 ⟨rfl, hk⟩; have d0 := hk.cell (p := ⟨w.heap.size, 0, none⟩) (v := .int .i64 a.code) (by go_simp); have d1 := hk.cell (p := ⟨w.heap.size, 1, none⟩) (v := .int .i64 a.kind) (by go_simp); have hz := World.block_lt_of_cell? _ _ d0; have K := Lib.hid (((Keeps.refl w).alloc _).trans hk); clear hk)
          go_ret
          exact ⟨rfl, K.out.alloc _⟩
        | false =>
          simp only [Bool.false_eq_true, if_false, decide_eq_true_eq] at h5
          go_enter Try.func39, Try.ntmps39
          go_wp2_with (go_at_call 25; refine (find_none l a.parent ao cap b o _ (H.keeps ((Keeps.refl w).alloc _)) hf).mono ?_; rintro e1 w1 ⟨rfl, hk⟩; have d0 := hk.cell (p := ⟨w.heap.size, 0, none⟩) (v := .int .i64 a.code) (by go_simp); have d1 := hk.cell (p := ⟨w.heap.size, 1, none⟩) (v := .int .i64 a.kind) (by go_simp); have hz := World.block_lt_of_cell? _ _ d0; have K := Lib.hid (((Keeps.refl w).alloc _).trans hk); clear hk)
          go_ret
          exact ⟨rfl, K.out.alloc _⟩
      | some p =>
        have er : aboveB l a = (p.code != a.code && p.kind == a.kind) := by unfold aboveB; rw [hf]
        rw [er]
        clear er
        cases g1 : (p.code != a.code) with
        | false =>
          rw [Bool.false_and]
          cases group with
          | true =>
            simp only [if_true, Bool.and_eq_true, decide_eq_true_eq] at h5
            obtain ⟨h5, h6⟩ := h5
            go_enter Try.func39, Try.ntmps39
            go_wp2_with (go_at_call 25; refine (find_some l a.parent p ao cap b o _ (H.keeps ((Keeps.refl w).alloc _)) hf).mono ?_; rintro e1 w1 ⟨rfl, hk⟩; have d0 := hk.cell (p := ⟨w.heap.size, 0, none⟩) (v := .int .i64 a.code) (by go_simp); have d1 := hk.cell (p := ⟨w.heap.size, 1, none⟩) (v := .int .i64 a.kind) (by go_simp); have hz := World.block_lt_of_cell? _ _ d0; have K := Lib.hid (((Keeps.refl w).alloc _).trans hk); clear hk)
            go_ret
            exact ⟨rfl, K.out.alloc _⟩
          | false =>
            simp only [Bool.false_eq_true, if_false, decide_eq_true_eq] at h5
            go_enter Try.func39, Try.ntmps39
            go_wp2_with (go_at_call 25; refine (find_some l a.parent p ao cap b o _ (H.keeps ((Keeps.refl w).alloc _)) hf).mono ?_; rintro e1 w1 ⟨rfl, hk⟩; have d0 := hk.cell (p := ⟨w.heap.size, 0, none⟩) (v := .int .i64 a.code) (by go_simp); have d1 := hk.cell (p := ⟨w.heap.size, 1, none⟩) (v := .int .i64 a.kind) (by go_simp); have hz := World.block_lt_of_cell? _ _ d0; have K := Lib.hid (((Keeps.refl w).alloc _).trans hk); clear hk)
            go_ret
            exact ⟨rfl, K.out.alloc _⟩
        | true =>
          rw [Bool.true_and]
          cases g2 : (p.kind == a.kind) with
          | false =>
            cases group with
            | true =>
              simp only [if_true, Bool.and_eq_true, decide_eq_true_eq] at h5
              obtain ⟨h5, h6⟩ := h5
              go_enter Try.func39, Try.ntmps39
              go_wp2_with (go_at_call 25; refine (find_some l a.parent p ao cap b o _ (H.keeps ((Keeps.refl w).alloc _)) hf).mono ?_; rintro e1 w1 ⟨rfl, hk⟩; have d0 := hk.cell (p := ⟨w.heap.size, 0, none⟩) (v := .int .i64 a.code) (by go_simp); have d1 := hk.cell (p := ⟨w.heap.size, 1, none⟩) (v := .int .i64 a.kind) (by go_simp); have hz := World.block_lt_of_cell? _ _ d0; have K := Lib.hid (((Keeps.refl w).alloc _).trans hk); clear hk)
              go_ret
              exact ⟨rfl, K.out.alloc _⟩
            | false =>
              simp only [Bool.false_eq_true, if_false, decide_eq_true_eq] at h5
              go_enter Try.func39, Try.ntmps39
              go_wp2_with (go_at_call 25; refine (find_some l a.parent p ao cap b o _ (H.keeps ((Keeps.refl w).alloc _)) hf).mono ?_; rintro e1 w1 ⟨rfl, hk⟩; have d0 := hk.cell (p := ⟨w.heap.size, 0, none⟩) (v := .int .i64 a.code) (by go_simp); have d1 := hk.cell (p := ⟨w.heap.size, 1, none⟩) (v := .int .i64 a.kind) (by go_simp); have hz := World.block_lt_of_cell? _ _ d0; have K := Lib.hid (((Keeps.refl w).alloc _).trans hk); clear hk)
              go_ret
              exact ⟨rfl, K.out.alloc _⟩
          | true =>
            cases group with
            | true =>
              simp only [if_true, Bool.and_eq_true, decide_eq_true_eq] at h5
              obtain ⟨h5, h6⟩ := h5
              go_enter Try.func39, Try.ntmps39
              go_wp2_with (go_at_call 25; refine (find_some l a.parent p ao cap b o _ (H.keeps ((Keeps.refl w).alloc _)) hf).mono ?_; rintro e1 w1 ⟨rfl, hk⟩; have d0 := hk.cell (p := ⟨w.heap.size, 0, none⟩) (v := .int .i64 a.code) (by go_simp); have d1 := hk.cell (p := ⟨w.heap.size, 1, none⟩) (v := .int .i64 a.kind) (by go_simp); have hz := World.block_lt_of_cell? _ _ d0; have K := Lib.hid (((Keeps.refl w).alloc _).trans hk); clear hk)
              go_ret
              exact ⟨rfl, K.out.alloc _⟩
            | false =>
              simp only [Bool.false_eq_true, if_false, decide_eq_true_eq] at h5
              go_enter Try.func39, Try.ntmps39
              go_wp2_with (go_at_call 25; refine (find_some l a.parent p ao cap b o _ (H.keeps ((Keeps.refl w).alloc _)) hf).mono ?_; rintro e1 w1 ⟨rfl, hk⟩; have d0 := hk.cell (p := ⟨w.heap.size, 0, none⟩) (v := .int .i64 a.code) (by go_simp); have d1 := hk.cell (p := ⟨w.heap.size, 1, none⟩) (v := .int .i64 a.kind) (by go_simp); have hz := World.block_lt_of_cell? _ _ d0; have K := Lib.hid (((Keeps.refl w).alloc _).trans hk); clear hk)
              go_ret
              exact ⟨rfl, K.out.alloc _⟩
end Go.Proofs.Ytppjjmjdiccloab
