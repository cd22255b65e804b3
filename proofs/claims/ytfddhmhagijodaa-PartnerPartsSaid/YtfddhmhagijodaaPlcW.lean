/- The comparison of two places of lines: the walk. -/
import Derived.Test.YtfddhmhagijodaaRG
import Derived.Test.YtfddhmhagijodaaApp2
import Derived.Test.YtfddhmhagijodaaSymP
import Derived.Test.YtfddhmhagijodaaProg
import Derived.Shelf.SlSortCmp.KitK
namespace Go.Proofs.Ytfddhmhagijodaa
open Go.RowKit
set_option linter.unusedSimpArgs false
set_option linter.unusedVariables false

/-- A line with what its order depends on. -/
structure Plc where
  eid : Int
  idx : Int
  date : Int
  at_ : Int
  ent : Int
  acc : Int
  amt : Int
  ptn : Int
deriving DecidableEq, Inhabited
def Plc.cells (p : Plc) : List Value := [.int .i64 p.eid, .int .i64 p.idx, .int .i64 p.date, .int .i64 p.at_, .int .i64 p.ent, .int .i64 p.acc, .int .i64 p.amt, .int .i64 p.ptn]
theorem Plc.len (p : Plc) : p.cells.length = 8 := rfl
theorem Plc.one (p : Plc) : ∀ v ∈ p.cells, v.oneCell' = true := by
  intro v hv
  simp only [Plc.cells, List.mem_cons, List.not_mem_nil, or_false] at hv
  rcases hv with rfl | rfl | rfl | rfl | rfl | rfl | rfl | rfl <;> rfl
/-- The first one that is not 0. -/
def orI : List Int → Int
  | [] => 0
  | x :: xs => if x = 0 then orI xs else x
def cmpP (a b : Plc) : Int := orI [cmpI a.date b.date, cmpI a.eid b.eid, cmpI a.at_ b.at_, cmpI a.idx b.idx]
theorem isnan_any (x : Int) (w : World) : Calls Try.prog 66 #[.int .i64 x] w fun e w' => e = .returned (.bool false) ∧ w = w' := by
  have h : (x != x) = false := by simp
  go_enter Try.func66, Try.ntmps66
  go_wp2
  go_ret
  exact ⟨rfl, rfl⟩
theorem compare_any (x y : Int) (w : World) : Calls Try.prog 56 #[.int .i64 x, .int .i64 y] w fun e w' => e = .returned (.int .i64 (cmpI x y)) ∧ w = w' := by
  by_cases h1 : x < y
  · go_enter Try.func56, Try.ntmps56
    go_wp2_with (go_at_call 66; refine (isnan_any _ _).mono ?_; rintro e w' ⟨rfl, rfl⟩)
    go_ret
    exact ⟨ret1 (by rw [cmpI, if_pos h1]), rfl⟩
  · by_cases h2 : y < x
    · go_enter Try.func56, Try.ntmps56
      go_wp2_with (go_at_call 66; refine (isnan_any _ _).mono ?_; rintro e w' ⟨rfl, rfl⟩)
      go_ret
      exact ⟨ret1 (by rw [cmpI, if_neg (by omega), if_pos h2]), rfl⟩
    · go_enter Try.func56, Try.ntmps56
      go_wp2_with (go_at_call 66; refine (isnan_any _ _).mono ?_; rintro e w' ⟨rfl, rfl⟩)
      go_ret
      exact ⟨ret1 (by rw [cmpI, if_neg (by omega), if_neg (by omega)]), rfl⟩
theorem orI_drop (xs : List Int) (k : Nat) (h : ∀ j (hj : j < xs.length), j < k → xs[j] = 0) (hk : k ≤ xs.length) : orI xs = orI (xs.drop k) := by
  induction k generalizing xs with
  | zero => rfl
  | succ k ih =>
    cases xs with
    | nil => simp at hk
    | cons x xs =>
      have h0 : x = 0 := h 0 (by simp) (Nat.succ_pos k)
      rw [List.drop_succ_cons, orI, if_pos h0]
      exact ih xs (fun j hj hjk => h (j + 1) (by simpa using hj) (by omega)) (by simpa using hk)
set_option maxHeartbeats 1000000 in
theorem or_any (xs : List Int) (ao : Option Addr) (cap b o : Nat) (w : World) (H : Sl w 1 ao xs.length cap b o (xs.map (.int .i64))) :
    Calls Try.prog 63 #[.slice ao xs.length cap] w fun e w' => e = .returned (.int .i64 (orI xs)) ∧ w = w' := by
  have hcap := H.cap
  have hle := H.le
  go_enter Try.func63, Try.ntmps63
  go_wp2_with fail
  go_loopw [8] (fun vi wr => ∃ k : Nat, k ≤ xs.length ∧ vi = .int .i64 k ∧ wr = w ∧ Hid (∀ j (hj : j < xs.length), j < k → xs[j] = 0)) (fun vi _ => xs.length - (intOf vi).toNat)
  case atStart => exact ⟨0, Nat.zero_le _, rfl, rfl, Lib.hid fun j _ h => absurd h (Nat.not_lt_zero _)⟩
  case round =>
    obtain ⟨k, hk, rfl, rfl, HZ⟩ := hrel
    by_cases hlt : k < xs.length
    · have hix := H.at1 Try.underlying76 Try.sizeOf3 k hlt
      have ck := H.int k hlt
      obtain ⟨x, hx⟩ : ∃ x, xs[k] = x := ⟨_, rfl⟩
      rw [hx] at ck
      by_cases h0 : x = 0
      · have e0 : (x != 0) = false := by simpa using h0
        have HZ2 : Hid (∀ j (hj : j < xs.length), j < k + 1 → xs[j] = 0) := Lib.hid fun j hj h => by
          by_cases e : j = k
          · subst e; rw [hx, h0]
          · exact HZ.out j hj (by omega)
        clear h0 hx
        go_wp2_with fail
        go_roundw
        case rel => exact ⟨k + 1, by omega, by go_num, by first | rfl | trivial, HZ2⟩
        case measure => simp [intOf]; omega
      · have e0 : (x != 0) = true := by simpa using h0
        have HO : Hid (orI xs = x) := Lib.hid (by rw [orI_drop xs k HZ.out hk, List.drop_eq_getElem_cons hlt, orI, hx, if_neg h0])
        clear h0 hx
        go_wp2_with fail
        go_ret
        exact ⟨by rw [HO.out]; rfl, rfl⟩
    · obtain rfl : k = xs.length := by omega
      have HO : Hid (orI xs = 0) := Lib.hid (by rw [orI_drop xs xs.length HZ.out (Nat.le_refl _), List.drop_length]; rfl)
      go_wp2_with fail
      go_ret
      exact ⟨by rw [HO.out]; rfl, rfl⟩
/-- New blocks and draws alone. -/
def GrownR (a b : World) : Prop := ∃ q os, b = Go.Sort.grow (a.drewN q) os
theorem GrownR.refl (a : World) : GrownR a a := ⟨0, #[], by rw [Go.Sort.grow_empty]; rfl⟩
theorem GrownR.trans {a b c : World} (h : GrownR a b) (k : GrownR b c) : GrownR a c := by
  obtain ⟨q, os, rfl⟩ := h
  obtain ⟨q2, os2, rfl⟩ := k
  refine ⟨q + q2, os ++ os2, ?_⟩
  rw [← Go.Sort.grow_grow]
  simp [Go.Sort.grow, World.drewN, Nat.add_assoc]
theorem GrownR.alloc (a : World) (o : Obj) : GrownR a (a.alloc o) := ⟨0, #[o], by simp only [Go.Sort.grow, Array.append_singleton]; rfl⟩
theorem GrownR.drew (a : World) : GrownR a a.drew := ⟨1, #[], by rw [Go.Sort.grow_empty]; rfl⟩
theorem GrownR.size {a b : World} (h : GrownR a b) : a.heap.size ≤ b.heap.size := by
  obtain ⟨q, os, rfl⟩ := h
  simp [Go.Sort.grow, World.drewN]
theorem GrownR.cell {a b : World} (h : GrownR a b) {p : Addr} {v : Value} (hc : a.cell? p = some v) : b.cell? p = some v := by
  obtain ⟨q, os, rfl⟩ := h
  rw [Go.Sort.cell?_grow _ _ _ (by exact World.block_lt_of_cell? _ _ hc)]
  exact hc
theorem GrownR.sl {a b : World} (h : GrownR a b) {sz : Nat} {ao : Option Addr} {n cap bb o : Nat} {cs : List Value} (H : Sl a sz ao n cap bb o cs) : Sl b sz ao n cap bb o cs :=
  ⟨H.len, H.le, H.nocap, H.cap, H.addr, fun j u hu => h.cell (H.cell j u hu)⟩
/-- The four comparisons in a slice. -/
def Four (x0 x1 x2 x3 : Int) (w : World) (v : Value) : Prop := ∃ B, v = .slice (some ⟨B, 0, none⟩) 4 4 ∧ Sl w 1 (some ⟨B, 0, none⟩) 4 4 B 0 [.int .i64 x0, .int .i64 x1, .int .i64 x2, .int .i64 x3]
theorem Four.keeps {x0 x1 x2 x3 : Int} {a b : World} {v : Value} (h : Four x0 x1 x2 x3 a v) (k : GrownR a b) : Four x0 x1 x2 x3 b v := by
  obtain ⟨B, rfl, hs⟩ := h
  exact ⟨B, rfl, k.sl hs⟩
set_option maxRecDepth 100000 in
set_option maxHeartbeats 4000000 in
theorem plcmp_any (a b : Plc) (w : World) :
    Calls Try.prog 52 #[.agg #[.int .i64 a.eid, .int .i64 a.idx, .int .i64 a.date, .int .i64 a.at_, .int .i64 a.ent, .int .i64 a.acc, .int .i64 a.amt, .int .i64 a.ptn], .agg #[.int .i64 b.eid, .int .i64 b.idx, .int .i64 b.date, .int .i64 b.at_, .int .i64 b.ent, .int .i64 b.acc, .int .i64 b.amt, .int .i64 b.ptn]] w
      fun e w' => e = .returned (.int .i64 (cmpP a b)) ∧ GrownR w w' := by
  obtain ⟨y0, hy0⟩ : ∃ y, cmpI a.date b.date = y := ⟨_, rfl⟩
  obtain ⟨y1, hy1⟩ : ∃ y, cmpI a.eid b.eid = y := ⟨_, rfl⟩
  obtain ⟨y2, hy2⟩ : ∃ y, cmpI a.at_ b.at_ = y := ⟨_, rfl⟩
  obtain ⟨y3, hy3⟩ : ∃ y, cmpI a.idx b.idx = y := ⟨_, rfl⟩
  have HC : Hid (cmpP a b = orI [y0, y1, y2, y3]) := Lib.hid (by rw [← hy0, ← hy1, ← hy2, ← hy3]; rfl)
  have H0 : Hid (∀ W, Calls Try.prog 56 #[.int .i64 a.date, .int .i64 b.date] W fun e w' => e = .returned (.int .i64 y0) ∧ W = w') := Lib.hid (fun W => by rw [← hy0]; exact compare_any _ _ _)
  have H1 : Hid (∀ W, Calls Try.prog 56 #[.int .i64 a.eid, .int .i64 b.eid] W fun e w' => e = .returned (.int .i64 y1) ∧ W = w') := Lib.hid (fun W => by rw [← hy1]; exact compare_any _ _ _)
  have H2 : Hid (∀ W, Calls Try.prog 56 #[.int .i64 a.at_, .int .i64 b.at_] W fun e w' => e = .returned (.int .i64 y2) ∧ W = w') := Lib.hid (fun W => by rw [← hy2]; exact compare_any _ _ _)
  have H3 : Hid (∀ W, Calls Try.prog 56 #[.int .i64 a.idx, .int .i64 b.idx] W fun e w' => e = .returned (.int .i64 y3) ∧ W = w') := Lib.hid (fun W => by rw [← hy3]; exact compare_any _ _ _)
  obtain ⟨W0, hW0⟩ : ∃ W0, (w.alloc (.cells #[.int .i64 a.eid, .int .i64 a.idx, .int .i64 a.date, .int .i64 a.at_, .int .i64 a.ent, .int .i64 a.acc, .int .i64 a.amt, .int .i64 a.ptn] 75)).alloc (.cells #[.int .i64 b.eid, .int .i64 b.idx, .int .i64 b.date, .int .i64 b.at_, .int .i64 b.ent, .int .i64 b.acc, .int .i64 b.amt, .int .i64 b.ptn] 75) = W0 := ⟨_, rfl⟩
  have HB : Hid (∀ W, GrownR W0.drew W → W.cell? ⟨w.heap.size, 0, none⟩ = some (.int .i64 a.eid) ∧ W.cell? ⟨w.heap.size, 1, none⟩ = some (.int .i64 a.idx) ∧ W.cell? ⟨w.heap.size, 2, none⟩ = some (.int .i64 a.date) ∧ W.cell? ⟨w.heap.size, 3, none⟩ = some (.int .i64 a.at_) ∧
      W.cell? ⟨w.heap.size + 1, 0, none⟩ = some (.int .i64 b.eid) ∧ W.cell? ⟨w.heap.size + 1, 1, none⟩ = some (.int .i64 b.idx) ∧ W.cell? ⟨w.heap.size + 1, 2, none⟩ = some (.int .i64 b.date) ∧ W.cell? ⟨w.heap.size + 1, 3, none⟩ = some (.int .i64 b.at_)) := Lib.hid (fun W h => by
    subst hW0
    exact ⟨h.cell (by go_simp), h.cell (by go_simp), h.cell (by go_simp), h.cell (by go_simp), h.cell (by go_simp), h.cell (by go_simp), h.cell (by go_simp), h.cell (by go_simp)⟩)
  have HG : Hid (GrownR w W0) := Lib.hid (by rw [← hW0]; exact (GrownR.alloc w _).trans (GrownR.alloc _ _))
  clear hy0 hy1 hy2 hy3
  go_enter Try.func52, Try.ntmps52
  go_wp2_with fail
  try rw [hW0]
  clear hW0
  refine wp_region_steps (A := ?_) GrownR [some 5, some 6, some 7, some 8, some 9, some 10, some 11, some 12, some 13, some 14, some 15, some 16, some 17, some 18, some 19, some 20, some 21, some 22, some 23, some 24, some 25, some 26, some 27, some 28, some 29, some 30, some 4] [[], [0], [], [2], [1, 3], [], [5], [6], [], [8], [9], [7, 10], [], [12], [], [14], [13, 15], [], [17], [18], [], [20], [21], [19, 22], [4, 11, 16, 23], [24], [25]] 27 (by kernel_rfl) (by kernel_rfl) (by kernel_rfl) (by kernel_rfl) (by kernel_rfl) (by kernel_rfl) GrownR.refl (fun _ _ _ => GrownR.trans) ?_ ?_
  rotate_left
  · intro f; simp only [putL, Act.put, List.setIfInBounds_toArray, List.set_cons_zero, List.set_cons_succ, Nat.zero_add, Nat.reduceAdd]; exact rfl
  refine Steps.pure (v := ?_) GrownR.refl rfl (fun f w' hR hV => ⟨?_, ?_⟩) ?_
  rotate_left
  · (rfl)
  · (clear hV; obtain ⟨x0, x1, x2, x3, z0, z1, z2, z3⟩ := HB.out _ hR; go_simp; all_goals (try with_reducible rfl))
  refine Steps.pure (v := ?_) GrownR.refl rfl (fun f w' hR hV => ⟨?_, ?_⟩) ?_
  rotate_left
  · (rfl)
  · (obtain ⟨h0, _⟩ := hV; replace h0 : f 0 = _ := h0; obtain ⟨x0, x1, x2, x3, z0, z1, z2, z3⟩ := HB.out _ hR; go_simp; all_goals (try with_reducible rfl))
  refine Steps.pure (v := ?_) GrownR.refl rfl (fun f w' hR hV => ⟨?_, ?_⟩) ?_
  rotate_left
  · (rfl)
  · (clear hV; obtain ⟨x0, x1, x2, x3, z0, z1, z2, z3⟩ := HB.out _ hR; go_simp; all_goals (try with_reducible rfl))
  refine Steps.pure (v := ?_) GrownR.refl rfl (fun f w' hR hV => ⟨?_, ?_⟩) ?_
  rotate_left
  · (rfl)
  · (obtain ⟨h2, _⟩ := hV; replace h2 : f 2 = _ := h2; obtain ⟨x0, x1, x2, x3, z0, z1, z2, z3⟩ := HB.out _ hR; go_simp; all_goals (try with_reducible rfl))
  refine Steps.call (fun _ v => v = .int .i64 y0) rfl (fun _ _ _ _ h => h) (fun f w' hR hV => ⟨?_, ?_⟩) ?_
  · (rfl)
  · (obtain ⟨h1, h3, _⟩ := hV; replace h1 : f 1 = _ := h1; replace h3 : f 3 = _ := h3; obtain ⟨x0, x1, x2, x3, z0, z1, z2, z3⟩ := HB.out _ hR; go_simp; go_at_call 56; refine (H0.out _).mono ?_; rintro e w2 ⟨rfl, rfl⟩; exact StepPost.of _ rfl rfl (GrownR.refl _))
  refine Steps.pure (v := ?_) GrownR.refl rfl (fun f w' hR hV => ⟨?_, ?_⟩) ?_
  rotate_left
  · (rfl)
  · (clear hV; obtain ⟨x0, x1, x2, x3, z0, z1, z2, z3⟩ := HB.out _ hR; go_simp; all_goals (try with_reducible rfl))
  refine Steps.pure (v := ?_) GrownR.refl rfl (fun f w' hR hV => ⟨?_, ?_⟩) ?_
  rotate_left
  · (rfl)
  · (obtain ⟨h5, _⟩ := hV; replace h5 : f 5 = _ := h5; obtain ⟨x0, x1, x2, x3, z0, z1, z2, z3⟩ := HB.out _ hR; go_simp; all_goals (try with_reducible rfl))
  refine Steps.pure (v := ?_) GrownR.refl rfl (fun f w' hR hV => ⟨?_, ?_⟩) ?_
  rotate_left
  · (rfl)
  · (obtain ⟨h6, _⟩ := hV; replace h6 : f 6 = _ := h6; obtain ⟨x0, x1, x2, x3, z0, z1, z2, z3⟩ := HB.out _ hR; go_simp; all_goals (try with_reducible rfl))
  refine Steps.pure (v := ?_) GrownR.refl rfl (fun f w' hR hV => ⟨?_, ?_⟩) ?_
  rotate_left
  · (rfl)
  · (clear hV; obtain ⟨x0, x1, x2, x3, z0, z1, z2, z3⟩ := HB.out _ hR; go_simp; all_goals (try with_reducible rfl))
  refine Steps.pure (v := ?_) GrownR.refl rfl (fun f w' hR hV => ⟨?_, ?_⟩) ?_
  rotate_left
  · (rfl)
  · (obtain ⟨h8, _⟩ := hV; replace h8 : f 8 = _ := h8; obtain ⟨x0, x1, x2, x3, z0, z1, z2, z3⟩ := HB.out _ hR; go_simp; all_goals (try with_reducible rfl))
  refine Steps.pure (v := ?_) GrownR.refl rfl (fun f w' hR hV => ⟨?_, ?_⟩) ?_
  rotate_left
  · (rfl)
  · (obtain ⟨h9, _⟩ := hV; replace h9 : f 9 = _ := h9; obtain ⟨x0, x1, x2, x3, z0, z1, z2, z3⟩ := HB.out _ hR; go_simp; all_goals (try with_reducible rfl))
  refine Steps.call (fun _ v => v = .int .i64 y1) rfl (fun _ _ _ _ h => h) (fun f w' hR hV => ⟨?_, ?_⟩) ?_
  · (rfl)
  · (obtain ⟨h7, h10, _⟩ := hV; replace h7 : f 7 = _ := h7; replace h10 : f 10 = _ := h10; obtain ⟨x0, x1, x2, x3, z0, z1, z2, z3⟩ := HB.out _ hR; go_simp; go_at_call 56; refine (H1.out _).mono ?_; rintro e w2 ⟨rfl, rfl⟩; exact StepPost.of _ rfl rfl (GrownR.refl _))
  refine Steps.pure (v := ?_) GrownR.refl rfl (fun f w' hR hV => ⟨?_, ?_⟩) ?_
  rotate_left
  · (rfl)
  · (clear hV; obtain ⟨x0, x1, x2, x3, z0, z1, z2, z3⟩ := HB.out _ hR; go_simp; all_goals (try with_reducible rfl))
  refine Steps.pure (v := ?_) GrownR.refl rfl (fun f w' hR hV => ⟨?_, ?_⟩) ?_
  rotate_left
  · (rfl)
  · (obtain ⟨h12, _⟩ := hV; replace h12 : f 12 = _ := h12; obtain ⟨x0, x1, x2, x3, z0, z1, z2, z3⟩ := HB.out _ hR; go_simp; all_goals (try with_reducible rfl))
  refine Steps.pure (v := ?_) GrownR.refl rfl (fun f w' hR hV => ⟨?_, ?_⟩) ?_
  rotate_left
  · (rfl)
  · (clear hV; obtain ⟨x0, x1, x2, x3, z0, z1, z2, z3⟩ := HB.out _ hR; go_simp; all_goals (try with_reducible rfl))
  refine Steps.pure (v := ?_) GrownR.refl rfl (fun f w' hR hV => ⟨?_, ?_⟩) ?_
  rotate_left
  · (rfl)
  · (obtain ⟨h14, _⟩ := hV; replace h14 : f 14 = _ := h14; obtain ⟨x0, x1, x2, x3, z0, z1, z2, z3⟩ := HB.out _ hR; go_simp; all_goals (try with_reducible rfl))
  refine Steps.call (fun _ v => v = .int .i64 y2) rfl (fun _ _ _ _ h => h) (fun f w' hR hV => ⟨?_, ?_⟩) ?_
  · (rfl)
  · (obtain ⟨h13, h15, _⟩ := hV; replace h13 : f 13 = _ := h13; replace h15 : f 15 = _ := h15; obtain ⟨x0, x1, x2, x3, z0, z1, z2, z3⟩ := HB.out _ hR; go_simp; go_at_call 56; refine (H2.out _).mono ?_; rintro e w2 ⟨rfl, rfl⟩; exact StepPost.of _ rfl rfl (GrownR.refl _))
  refine Steps.pure (v := ?_) GrownR.refl rfl (fun f w' hR hV => ⟨?_, ?_⟩) ?_
  rotate_left
  · (rfl)
  · (clear hV; obtain ⟨x0, x1, x2, x3, z0, z1, z2, z3⟩ := HB.out _ hR; go_simp; all_goals (try with_reducible rfl))
  refine Steps.pure (v := ?_) GrownR.refl rfl (fun f w' hR hV => ⟨?_, ?_⟩) ?_
  rotate_left
  · (rfl)
  · (obtain ⟨h17, _⟩ := hV; replace h17 : f 17 = _ := h17; obtain ⟨x0, x1, x2, x3, z0, z1, z2, z3⟩ := HB.out _ hR; go_simp; all_goals (try with_reducible rfl))
  refine Steps.pure (v := ?_) GrownR.refl rfl (fun f w' hR hV => ⟨?_, ?_⟩) ?_
  rotate_left
  · (rfl)
  · (obtain ⟨h18, _⟩ := hV; replace h18 : f 18 = _ := h18; obtain ⟨x0, x1, x2, x3, z0, z1, z2, z3⟩ := HB.out _ hR; go_simp; all_goals (try with_reducible rfl))
  refine Steps.pure (v := ?_) GrownR.refl rfl (fun f w' hR hV => ⟨?_, ?_⟩) ?_
  rotate_left
  · (rfl)
  · (clear hV; obtain ⟨x0, x1, x2, x3, z0, z1, z2, z3⟩ := HB.out _ hR; go_simp; all_goals (try with_reducible rfl))
  refine Steps.pure (v := ?_) GrownR.refl rfl (fun f w' hR hV => ⟨?_, ?_⟩) ?_
  rotate_left
  · (rfl)
  · (obtain ⟨h20, _⟩ := hV; replace h20 : f 20 = _ := h20; obtain ⟨x0, x1, x2, x3, z0, z1, z2, z3⟩ := HB.out _ hR; go_simp; all_goals (try with_reducible rfl))
  refine Steps.pure (v := ?_) GrownR.refl rfl (fun f w' hR hV => ⟨?_, ?_⟩) ?_
  rotate_left
  · (rfl)
  · (obtain ⟨h21, _⟩ := hV; replace h21 : f 21 = _ := h21; obtain ⟨x0, x1, x2, x3, z0, z1, z2, z3⟩ := HB.out _ hR; go_simp; all_goals (try with_reducible rfl))
  refine Steps.call (fun _ v => v = .int .i64 y3) rfl (fun _ _ _ _ h => h) (fun f w' hR hV => ⟨?_, ?_⟩) ?_
  · (rfl)
  · (obtain ⟨h19, h22, _⟩ := hV; replace h19 : f 19 = _ := h19; replace h22 : f 22 = _ := h22; obtain ⟨x0, x1, x2, x3, z0, z1, z2, z3⟩ := HB.out _ hR; go_simp; go_at_call 56; refine (H3.out _).mono ?_; rintro e w2 ⟨rfl, rfl⟩; exact StepPost.of _ rfl rfl (GrownR.refl _))
  refine Steps.call (Four y0 y1 y2 y3) rfl (fun _ _ _ k h => h.keeps k) (fun f w' hR hV => ⟨?_, ?_⟩) ?_
  · (rfl)
  · (obtain ⟨h4, h11, h16, h23, _⟩ := hV; replace h4 : f 4 = _ := h4; replace h11 : f 11 = _ := h11; replace h16 : f 16 = _ := h16; replace h23 : f 23 = _ := h23; obtain ⟨x0, x1, x2, x3, z0, z1, z2, z3⟩ := HB.out _ hR; go_simp; exact StepPost.of _ rfl ⟨_, rfl, Sl.lit w' 1 4 [.int .i64 y0, .int .i64 y1, .int .i64 y2, .int .i64 y3] 3 rfl (by omega)⟩ (GrownR.alloc _ _))
  refine Steps.call (fun _ v => v = .int .i64 (orI [y0, y1, y2, y3])) rfl (fun _ _ _ _ h => h) (fun f w' hR hV => ⟨?_, ?_⟩) ?_
  · (rfl)
  · (obtain ⟨h24, _⟩ := hV; replace h24 : Four y0 y1 y2 y3 w' (f 24) := h24; obtain ⟨x0, x1, x2, x3, z0, z1, z2, z3⟩ := HB.out _ hR; go_simp; obtain ⟨B, eB, hs⟩ := h24; simp only [eB]; go_at_call 63; refine (or_any [y0, y1, y2, y3] _ _ _ _ _ hs).mono ?_; rintro e w2 ⟨rfl, rfl⟩; exact StepPost.of _ rfl rfl (GrownR.refl _))
  refine Steps.pure (v := ?_) GrownR.refl rfl (fun f w' hR hV => ⟨?_, ?_⟩) ?_
  rotate_left
  · (rfl)
  · (obtain ⟨h25, _⟩ := hV; replace h25 : f 25 = _ := h25; obtain ⟨x0, x1, x2, x3, z0, z1, z2, z3⟩ := HB.out _ hR; go_simp; all_goals (try with_reducible rfl))
  all_goals (refine Steps.done [26] (by kernel_rfl) rfl (fun f wq hR hV => ?_); obtain ⟨h26, _⟩ := hV; replace h26 : f 26 = _ := h26; simp only [h26])
  go_wp2_with fail
  go_ret
  exact ⟨by rw [HC.out]; rfl, HG.out.trans ((GrownR.drew _).trans hR)⟩
end Go.Proofs.Ytfddhmhagijodaa
