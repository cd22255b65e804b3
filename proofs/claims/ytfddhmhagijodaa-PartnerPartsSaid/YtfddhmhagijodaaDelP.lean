/- partner.between$1: the walk; slices.IndexFunc at places with between's closure: the walk; A run of stores into a row that the call owns. No program; 'clear(s[i:])' at places in a row that the call owns. No program is walked; What slices.DeleteFunc does to a row that the call owns: a store of a whole element, the clearing of its end, the cut. No program is walked. -/
import Derived.Test.YtfddhmhagijodaaPlacesW
import Derived.Lib.SliceRun
import Derived.Deep.MidRow
namespace Go.Proofs.Ytfddhmhagijodaa
open Go.RowKit
set_option linter.unusedSimpArgs false
set_option linter.unusedVariables false

/-- A line of another entity or with another partner. -/
def outsB (en pt : Int) (p : Plc) : Bool := decide (p.ent ≠ en) || decide (p.ptn ≠ pt)
theorem between1_any (p : Plc) (be bp : Nat) (en pt : Int) (w : World) (he : w.cell? ⟨be, 0, none⟩ = some (.int .i64 en)) (hp : w.cell? ⟨bp, 0, none⟩ = some (.int .i64 pt)) :
    Calls Try.prog 46 #[.agg #[.int .i64 p.eid, .int .i64 p.idx, .int .i64 p.date, .int .i64 p.at_, .int .i64 p.ent, .int .i64 p.acc, .int .i64 p.amt, .int .i64 p.ptn], .pointer (some ⟨be, 0, none⟩), .pointer (some ⟨bp, 0, none⟩)] w
      fun e w' => e = .returned (.bool (outsB en pt p)) ∧ Keeps w w' := by
  have hbe := World.block_lt_of_cell? _ _ he
  have hbp := World.block_lt_of_cell? _ _ hp
  by_cases h1 : p.ent = en
  · have e1 : (p.ent != en) = false := by simpa using h1
    by_cases h2 : p.ptn = pt
    · have e2 : (p.ptn != pt) = false := by simpa using h2
      have HO : Hid (outsB en pt p = false) := Lib.hid (by simp [outsB, h1, h2])
      clear h1 h2
      go_enter Try.func46, Try.ntmps46
      go_wp2_with fail
      go_ret
      exact ⟨by rw [HO.out]; rfl, (Keeps.refl w).alloc _⟩
    · have e2 : (p.ptn != pt) = true := by simpa using h2
      have HO : Hid (outsB en pt p = true) := Lib.hid (by simp [outsB, h1, h2])
      clear h1 h2
      go_enter Try.func46, Try.ntmps46
      go_wp2_with fail
      go_ret
      exact ⟨by rw [HO.out]; rfl, (Keeps.refl w).alloc _⟩
  · have e1 : (p.ent != en) = true := by simpa using h1
    have HO : Hid (outsB en pt p = true) := Lib.hid (by simp [outsB, h1])
    clear h1
    go_enter Try.func46, Try.ntmps46
    go_wp2_with fail
    go_ret
    exact ⟨by rw [HO.out]; rfl, (Keeps.refl w).alloc _⟩
end Go.Proofs.Ytfddhmhagijodaa

namespace Go.Proofs.Ytfddhmhagijodaa
open Go.RowKit
set_option linter.unusedSimpArgs false
set_option linter.unusedVariables false

def IdxPost (w : World) (en pt : Int) (xs : List Plc) (e : Ending) (w' : World) : Prop :=
  Keeps w w' ∧ ∃ k : Nat, k ≤ xs.length ∧ (∀ p ∈ xs.take k, outsB en pt p = false) ∧ ((k = xs.length ∧ e = .returned (.int .i64 (-1))) ∨ (∃ hk : k < xs.length, outsB en pt xs[k] = true ∧ e = .returned (.int .i64 k)))
set_option maxHeartbeats 1000000 in
theorem idx_any (be bp : Nat) (en pt : Int) (ao : Option Addr) (xs : List Plc) (cap b o : Nat) (w : World) (H : Recs w 8 Plc.cells ao xs cap b o) (he : w.cell? ⟨be, 0, none⟩ = some (.int .i64 en)) (hp : w.cell? ⟨bp, 0, none⟩ = some (.int .i64 pt)) :
    Calls Try.prog 58 #[.slice ao xs.length cap, .func (.func 46) #[] #[.pointer (some ⟨be, 0, none⟩), .pointer (some ⟨bp, 0, none⟩)]] w (IdxPost w en pt xs) := by
  have hcap := Sl.cap H
  have hle := Sl.le H
  have HH := Lib.hid H
  clear H
  go_enter Try.func58, Try.ntmps58
  go_wp2_with fail
  go_loopw [8] (fun vi wr => ∃ k : Nat, k ≤ xs.length ∧ vi = .int .i64 k ∧ Hid (Keeps w wr) ∧ Hid (∀ p ∈ xs.take k, outsB en pt p = false)) (fun vi _ => xs.length - (intOf vi).toNat)
  case atStart => exact ⟨0, Nat.zero_le _, rfl, Lib.hid (Keeps.refl w), Lib.hid (by simp)⟩
  case round =>
    obtain ⟨k, hk, rfl, HK, HZ⟩ := hrel
    by_cases hlt : k < xs.length
    · have hr := HH.out.keeps HK.out
      have hix := Sl.at hr Try.underlying72 Try.sizeOf75 k hlt
      obtain ⟨p, hpk⟩ : ∃ p, xs[k] = p := ⟨_, rfl⟩
      have c0 := hr.cell Plc.len k hlt 0 (.int .i64 p.eid) (by rw [hpk]; rfl)
      rw [Nat.add_zero] at c0
      have c1 := hr.cell Plc.len k hlt 1 (.int .i64 p.idx) (by rw [hpk]; rfl)
      have c2 := hr.cell Plc.len k hlt 2 (.int .i64 p.date) (by rw [hpk]; rfl)
      have c3 := hr.cell Plc.len k hlt 3 (.int .i64 p.at_) (by rw [hpk]; rfl)
      have c4 := hr.cell Plc.len k hlt 4 (.int .i64 p.ent) (by rw [hpk]; rfl)
      have c5 := hr.cell Plc.len k hlt 5 (.int .i64 p.acc) (by rw [hpk]; rfl)
      have c6 := hr.cell Plc.len k hlt 6 (.int .i64 p.amt) (by rw [hpk]; rfl)
      have c7 := hr.cell Plc.len k hlt 7 (.int .i64 p.ptn) (by rw [hpk]; rfl)
      have HB := Lib.hid (between1_any p be bp en pt wr (HK.out.cell he) (HK.out.cell hp))
      have HP := Lib.hid hpk
      clear hr hpk
      cases hob : outsB en pt p with
      | true =>
        rw [hob] at HB
        have HO := Lib.hid hob
        clear hob
        go_wp2_with (go_at_call 46; refine HB.out.mono ?_; rintro e w1 ⟨rfl, hk1⟩)
        go_ret
        exact ⟨HK.out.trans hk1, k, hk, HZ.out, .inr ⟨hlt, by rw [HP.out]; exact HO.out, rfl⟩⟩
      | false =>
        rw [hob] at HB
        have HZ2 : Hid (∀ q ∈ xs.take (k + 1), outsB en pt q = false) := Lib.hid (by
          rw [take_snoc _ k hlt]
          intro q hq
          rcases List.mem_append.1 hq with h | h
          · exact HZ.out q h
          · rw [List.mem_singleton] at h; rw [h, HP.out]; exact hob)
        clear hob
        go_wp2_with (go_at_call 46; refine HB.out.mono ?_; rintro e w1 ⟨rfl, hk1⟩)
        go_roundw
        case rel => exact ⟨k + 1, by omega, by go_num, Lib.hid (HK.out.trans hk1), HZ2⟩
        case measure => simp [intOf]; omega
    · obtain rfl : k = xs.length := by omega
      go_wp2_with fail
      go_ret
      exact ⟨HK.out, xs.length, Nat.le_refl _, HZ.out, .inl ⟨rfl, rfl⟩⟩
end Go.Proofs.Ytfddhmhagijodaa

namespace Go.Proofs.Ytfddhmhagijodaa
open Go.RowKit
set_option linter.unusedSimpArgs false
set_option linter.unusedVariables false

/-- A run of values set in a list. -/
def setL : List Value → Nat → List Value → List Value
  | xs, _, [] => xs
  | xs, s, v :: r => setL (xs.set s v) (s + 1) r
theorem own_setCells {base g cap n size : Nat} {e : TypeId} : ∀ (vs : List Value) (s : Nat) (w : World) (xs : List Value), w.ownsRow base e size (.slice (some ⟨g, 0, none⟩) n cap) n xs →
    (w.setCells g s vs).ownsRow base e size (.slice (some ⟨g, 0, none⟩) n cap) n (setL xs s vs) ∧ w.grownBy (w.setCells g s vs) (some g)
  | [], s, w, xs, h => ⟨h, grown_refl _ _⟩
  | v :: vs, s, w, xs, h => by
    obtain ⟨h1, h2⟩ := h.stored s v
    obtain ⟨h3, h4⟩ := own_setCells vs (s + 1) _ _ h1
    exact ⟨h3, h2.trans h4⟩
theorem setL_app (ys : List Value) : ∀ (vs xs : List Value) (s : Nat), s = xs.length → ∀ zs : List Value, zs.length = vs.length → setL (xs ++ zs ++ ys) s vs = xs ++ vs ++ ys
  | [], xs, s, h, zs, hz => by
    have : zs = [] := List.eq_nil_of_length_eq_zero hz
    subst this; rfl
  | v :: vs, xs, s, h, zs, hz => by
    cases zs with
    | nil => simp at hz
    | cons z zs =>
      have e : (xs ++ (z :: zs) ++ ys).set s v = (xs ++ [v]) ++ zs ++ ys := by subst h; simp [List.set_append]
      rw [setL, e, setL_app ys vs (xs ++ [v]) (s + 1) (by simp [h]) zs (by simpa using hz)]
      simp
end Go.Proofs.Ytfddhmhagijodaa

namespace Go.Proofs.Ytfddhmhagijodaa
open Go.RowKit
set_option linter.unusedSimpArgs false
set_option linter.unusedVariables false

theorem own_keepsP {w w' : World} {base e size n : Nat} {v : Value} {xs : List Value} (h : w.ownsRow base e size v n xs) (hk : Keeps w w') : w'.ownsRow base e size v n xs := by
  refine ⟨h.1, ?_⟩
  rcases h.2 with hn | ⟨g, cap, cur, hv, hbg, hg, rest⟩
  · exact .inl hn
  · exact .inr ⟨g, cap, cur, hv, hbg, (hk.block g (Array.getElem?_eq_some_iff.1 hg).1).trans hg, rest⟩
/-- 'clear(s)', s of n > 0 elements of any size, at cells that are there. -/
theorem run_clearK {P : Program} (w : World) (t e ty : TypeId) (z : Value) (ht : P.underlying t = some (.slice e)) (hv : ∀ w, (zeroValue e).run P w = .ok z w) (b o n c : Nat) (hn : 0 < n)
    (h1 : ∀ v ∈ (Builtin.zeroCells z.cells n).toList, v.oneCell' = true) (hc : ∀ j, j < (Builtin.zeroCells z.cells n).toList.length → (w.cell? ⟨b, o + j, none⟩).isSome = true) (hf : ∀ j, j < (Builtin.zeroCells z.cells n).toList.length → w.frozen? ⟨b, o + j, none⟩ = false) :
    (Builtin.clear_ #[t] ty #[.slice (some ⟨b, o, none⟩) n c]).run P w = .ok (.tuple #[]) (w.setCells b o (Builtin.zeroCells z.cells n).toList) := by
  have hst := run_storeCells_cells (P := P) b o (Builtin.zeroCells z.cells n).toList 0 w (by simpa using hc) (by simpa using hf) h1
  simp only [Nat.add_zero] at hst
  obtain ⟨m, rfl⟩ : ∃ m, n = m + 1 := ⟨n - 1, by omega⟩
  simp [Builtin.clear_, run_underlying ht, hv, hst]
end Go.Proofs.Ytfddhmhagijodaa

namespace Go.Proofs.Ytfddhmhagijodaa
open Go.RowKit
set_option linter.unusedSimpArgs false
set_option linter.unusedVariables false

theorem own_there {w : World} {base e size n g cap : Nat} {xs : List Value} (h : w.ownsRow base e size (.slice (some ⟨g, 0, none⟩) n cap) n xs) (o m : Nat) (hm : o + m ≤ n * size) : w.there g o m := fun j hj => by
  refine ⟨?_, h.frozenAt _⟩
  have hl := h.1
  rw [h.cellAt _ (by omega), List.getElem?_eq_getElem (by omega)]
  rfl
/-- The first elements of a row. -/
theorem own_cut {w : World} {base e size n g cap : Nat} {xs : List Value} (h : w.ownsRow base e size (.slice (some ⟨g, 0, none⟩) n cap) n xs) (m : Nat) (hm : m ≤ n) : w.ownsRow base e size (.slice (some ⟨g, 0, none⟩) m cap) m (xs.take (m * size)) := by
  rcases h.2 with ⟨h', _⟩ | ⟨g', cap', cur, h', hb, hg, hnc, hcm, hcs, htake⟩
  · simp at h'
  · simp only [Value.slice.injEq, Option.some.injEq, Addr.mk.injEq, and_true, true_and] at h'
    obtain ⟨rfl, rfl⟩ := h'
    have hl : m * size ≤ n * size := Nat.mul_le_mul_right _ hm
    refine ⟨by rw [List.length_take, h.1]; omega, .inr ⟨g, cap, cur, rfl, hb, hg, by omega, hcm, hcs, ?_⟩⟩
    rw [← htake, List.take_take, Nat.min_eq_left hl]
theorem mem_zeroCells {z : Array Value} {n : Nat} {v : Value} (h : v ∈ (Builtin.zeroCells z n).toList) : v ∈ z.toList := by
  obtain ⟨j, hj, rfl⟩ := List.getElem_of_mem h
  have hjn : j < n * z.size := by simpa [Builtin.zeroCells] using hj
  have hz : 0 < z.size := by
    rcases Nat.eq_zero_or_pos z.size with e | e
    · rw [e] at hjn; simp at hjn
    · exact e
  have hm : j % z.size < z.size := Nat.mod_lt _ hz
  simp [Builtin.zeroCells, getElem!_pos z (j % z.size) hm]
/-- 'clear(s)' at its operation. -/
theorem wpList_clearK {P : Program} {w : World} {ops : Array Oper} {rest : List Oper} {op : Oper} {a : Act} {Q : Exit → Act → World → Prop} {t e : TypeId} {z : Value} (hgd : op.guard = none) (x : Operand) (ho : op.op = .call { callee := .builtin .clear, args := #[x], argTypes := #[t] })
    (ht : P.underlying t = some (.slice e)) (hv : ∀ w, (zeroValue e).run P w = .ok z w) (hz : ∀ v ∈ z.cells.toList, v.oneCell' = true) (b o n c k : Nat) (hk : z.cells.size = k) (hx : a.eval x = .slice (some ⟨b, o, none⟩) n c) (hn : 0 < n) (hth : w.there b o (n * k))
    (h : ∀ zs : List Value, zs.length = n * k → wpList P ops Q rest (a.put op.dst (.tuple #[])) (w.setCells b o zs)) : wpList P ops Q (op :: rest) a w := by
  refine wpList_plain hgd fun K hK => ?_
  have hl : (Builtin.zeroCells z.cells n).toList.length = n * k := by rw [Array.length_toList, size_zeroCells, hk]
  have hr := run_clearK (P := P) w t e op.type z ht hv b o n c hn (fun v h => hz v (mem_zeroCells h)) (fun j hj => (hth j (by omega)).1) (fun j hj => (hth j (by omega)).2)
  unfold Oper.wp execOp
  simp only [ho, resolve, invoke, builtin, Sem.run_bind, Sem.run_pure, Result.andThen_ok, List.map_toArray, List.map_cons, List.map_nil, hx, hr]
  exact hK _ _ (h _ hl)
end Go.Proofs.Ytfddhmhagijodaa
