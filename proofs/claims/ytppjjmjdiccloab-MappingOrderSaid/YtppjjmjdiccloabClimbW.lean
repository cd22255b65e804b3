/- The way up: the walks. -/
import Derived.Test.YtppjjmjdiccloabProperW
import Derived.Test.YtppjjmjdiccloabPut
import Derived.Test.YtppjjmjdiccloabRDates
namespace Go.Proofs.Ytppjjmjdiccloab
open Go.RowKit
set_option linter.unusedSimpArgs false
set_option linter.unusedVariables false

/-- 'out = append(out, x)': what the law leaves, raw. -/
theorem wpList_app_raw {P : Program} {w : World} {ops : Array Oper} {rest : List Oper} {o : Oper} {a : Act} {Q : Exit → Act → World → Prop} {t e : TypeId} {z : Value} {size bytes : Nat}
    (E : ElemOf P t e z size bytes) (hgd : o.guard = none) (s x : Operand) (ho : o.op = .call { callee := .builtin .append, args := #[s, x], argTypes := #[t, t] })
    (v : Value) (n : Nat) (xs : List Value) (hs : a.eval s = v) (base : Nat) (hown : w.ownsRow base e size v n xs) (hbase : base ≤ w.heap.size)
    (news : List Value) (bx c : Nat) (hx : a.eval x = .slice (some ⟨bx, 0, none⟩) 1 c) (hbx : bx = w.heap.size) (hl : news.length = size) (h1 : ∀ u ∈ news, u.oneCell' = true) (hbytes : (n + 1) * bytes ≤ 140737488355328) (h63 : n + 1 ≤ 9223372036854775807)
    (h : ∀ v' w', w'.ownsRow base e size v' (n + 1) (xs ++ news) → (w.alloc (.cells news.toArray e)).grownBy w' v.ownBlock → (v'.ownBlock = v.ownBlock ∨ v'.ownBlock = some (w.heap.size + 1)) → wpList P ops Q rest (a.put o.dst v') w') :
    wpList P ops Q (o :: rest) a (w.alloc (.cells news.toArray e)) := by
  subst hbx
  obtain ⟨i0, hi, hz0, hz1, hz2⟩ := info_parts E.info
  refine wpList_append_own_at _ hgd s x t ho base e i0 z size bytes E.ht hi hz0 hz1 hz2 E.zs E.sz v n xs hs (hown.alloc _) ⟨w.heap.size, 0, none⟩ 1 c news hx (by omega) ?_ h1 (by unfold maxLen; omega) hbytes (by simp; omega) ?_
  · intro j u hj
    rw [Addr.add_lit, Nat.zero_add, cell_of_row (w.alloc (.cells news.toArray e)) w.heap.size j news.toArray e (0, 0) (heap_alloc_new w _)]
    simpa using hj
  · intro v' w' hown' hgrow _ hat
    exact h v' w' hown' hgrow (by simpa using hat)

/-- The result of a way: a new slice of codes. -/
def OutI (w : World) (xs : List Int) (e : Ending) (w' : World) : Prop := ∃ v, e = .returned v ∧ IntL w' v xs ∧ Keeps w w'

set_option maxRecDepth 100000 in
set_option maxHeartbeats 2000000 in
theorem rclimb_any (l : List Acc) (c0 : Int) (ao : Option Addr) (cap b o : Nat) (w : World) (H : Accs w ao l cap b o) (hl : l.length ≤ 1000) :
    Calls Try.prog 40 #[.slice ao l.length cap, .int .i64 c0] w (OutI w (climbR l c0)) := by
  have hcap := Sl.cap H
  have hle := Sl.le H
  have HH := Lib.hid H
  clear H
  go_enter Try.func40, Try.ntmps40
  go_wp2_with fail
  go_loopw [1, 5, 6] (fun vc vo vi wr => ∃ (k : Nat) (c : Int) (xs : List Int), k ≤ l.length + 1 ∧ xs.length = k ∧ vi = .int .i64 k ∧ vc = .int .i64 c ∧ Hid (climbR l c0 = xs ++ pathR l (l.length + 1 - k) c) ∧ Hid (Keeps w wr ∧ wr.ownsRow w.heap.size 3 1 vo k (xs.map (.int .i64)))) (fun _ _ vi _ => l.length + 1 - (intOf vi).toNat)
  case atStart => exact ⟨0, c0, [], Nat.zero_le _, rfl, rfl, rfl, Lib.hid rfl, Lib.hid ⟨Keeps.refl w, World.ownsRow_nil _ _ _ _⟩⟩
  case round =>
    obtain ⟨k, c, xs, hk, hxs, rfl, rfl, HP, HW⟩ := hrel
    by_cases hlt : k ≤ l.length
    · have hlt' : (k : Int) ≤ (l.length : Int) := by omega
      cases hf : findA l c with
      | none =>
        have HE : Hid (climbR l c0 = xs) := Lib.hid (by
          rw [HP.out]
          obtain ⟨m, hm⟩ : ∃ m, l.length + 1 - k = m + 1 := ⟨l.length - k, by omega⟩
          rw [hm]; simp only [pathR, hf, List.append_nil])
        go_wp2_with (first | (go_at_call 25; refine (find_none l c ao cap b o _ (HH.out.keeps HW.out.1) hf).mono ?_; rintro e1 w1 ⟨rfl, hk1⟩; have HW1 : Hid (Keeps w w1 ∧ w1.ownsRow w.heap.size 3 1 u5 k (xs.map (.int .i64))) := Lib.hid ⟨HW.out.1.trans hk1, own_keeps HW.out.2 hk1⟩; clear hk1))
        go_ret
        rw [HE.out]
        refine ⟨_, rfl, IntL.own (base := w.heap.size) (e := 3) ?_, HW1.out.1.alloc _⟩
        rw [hxs]; exact HW1.out.2.alloc _
      | some a =>
        have HE : Hid (climbR l c0 = (xs ++ [c]) ++ pathR l (l.length + 1 - (k + 1)) a.parent) := Lib.hid (by
          rw [HP.out]
          obtain ⟨m, hm⟩ : ∃ m, l.length + 1 - k = m + 1 := ⟨l.length - k, by omega⟩
          rw [hm, show l.length + 1 - (k + 1) = m from by omega]; simp only [pathR, hf, List.append_assoc, List.singleton_append])
        go_wp2_with (first | (go_at_call 25; refine (find_some l c a ao cap b o _ (HH.out.keeps HW.out.1) hf).mono ?_; rintro e1 w1 ⟨rfl, hk1⟩; have HW1 : Hid (Keeps w w1 ∧ w1.ownsRow w.heap.size 3 1 u5 k (xs.map (.int .i64))) := Lib.hid ⟨HW.out.1.trans hk1, own_keeps HW.out.2 hk1⟩; clear hk1) | (at_builtin; go_loud (refine wpList_app_raw elemInt rfl _ _ rfl _ _ _ rfl w.heap.size (HW1.out.2.alloc _) (by have := HW1.out.1.size; simp; omega) [.int .i64 c] _ 1 rfl (by simp) rfl (by intro u hu; simp at hu; subst hu; rfl) (by omega) (by omega) ?_; intro v2 w2 hown2 hgrow2 hat2; have d3 := hgrow2.cell (show ((w1.alloc (.cells #[.int .i64 a.code, .int .i64 a.kind, .int .i64 a.basis, .int .i64 a.parent] 50)).alloc (.cells #[.int .i64 c] 3)).cell? ⟨w1.heap.size, 3, none⟩ = some (.int .i64 a.parent) by go_simp) (fun e => Nat.lt_irrefl w1.heap.size (HW1.out.2.lt w1.heap.size e.symm).2); have hb2 := World.block_lt_of_cell? _ _ d3; have HX : Hid (Keeps w w2 ∧ w2.ownsRow w.heap.size 3 1 v2 (k + 1) ((xs ++ [c]).map (.int .i64))) := Lib.hid ⟨Below.grown ((HW1.out.1.alloc _).alloc _) hgrow2 (by have := HW1.out.1.size; simp; omega) (fun j hj => (HW1.out.2.lt j hj).1), by rw [List.map_append]; exact hown2⟩; clear hown2 hgrow2 hat2)))
        go_roundw
        case rel => exact ⟨k + 1, a.parent, xs ++ [c], by omega, by simp [hxs], by go_num, rfl, HE, HX⟩
        case measure => simp [intOf]; omega
    · obtain rfl : k = l.length + 1 := by omega
      have hlt' : ¬ (((l.length + 1 : Nat) : Int) ≤ (l.length : Int)) := by omega
      have HE : Hid (climbR l c0 = xs) := Lib.hid (by
        rw [HP.out, show l.length + 1 - (l.length + 1) = 0 from by omega]; simp only [pathR, List.append_nil])
      go_wp2_with fail
      go_ret
      rw [HE.out]
      refine ⟨_, rfl, IntL.own (base := w.heap.size) (e := 3) ?_, HW.out.1⟩
      rw [hxs]; exact HW.out.2
end Go.Proofs.Ytppjjmjdiccloab
