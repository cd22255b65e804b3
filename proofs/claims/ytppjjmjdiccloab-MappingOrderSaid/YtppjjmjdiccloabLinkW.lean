/- mapping.link: the walk. -/
import Derived.Test.YtppjjmjdiccloabValidPW
import Derived.Test.YtppjjmjdiccloabAtW
namespace Go.Proofs.Ytppjjmjdiccloab
open Go.RowKit
set_option linter.unusedSimpArgs false
set_option linter.unusedVariables false

/-- A link leads from an account of the one chart to one of the other, of the same kind, from a date on. -/
def linkB (x c : List Acc) (l : Lnk) : Bool := match findA x l.frm, findA c l.to with
  | some a, some b => a.kind == b.kind && dateB l.since
  | _, _ => false
set_option maxRecDepth 100000 in
set_option maxHeartbeats 4000000 in
theorem link_any (nm cur : ByteArray) (jt : Bool) (x c : List Acc) (l : Lnk) (lv : Value) (ao : Option Addr) (cap b o : Nat) (ao2 : Option Addr) (cap2 b2 o2 : Nat) (w : World) (H : Accs w ao x cap b o) (H2 : Accs w ao2 c cap2 b2 o2) :
    Calls Try.prog 23 #[.agg #[.string nm, .string cur, .slice ao x.length cap, lv, .bool jt], .slice ao2 c.length cap2, .agg #[.int .i64 l.frm, .int .i64 l.to, .int .i64 l.since]] w fun e w' => e = .returned (.bool (linkB x c l)) ∧ Keeps w w' := by
  have HC := Lib.hid H
  have HD := Lib.hid H2
  have K0 : Hid (Keeps w ((w.alloc (.cells #[.string nm, .string cur, .slice ao x.length cap, lv, .bool jt] 25)).alloc (.cells #[.int .i64 l.frm, .int .i64 l.to, .int .i64 l.since] 39))) := Lib.hid (((Keeps.refl w).alloc _).alloc _)
  obtain ⟨a, ha⟩ : ∃ a, (findA x l.frm).getD Acc.zero = a := ⟨_, rfl⟩
  obtain ⟨p, hp⟩ : ∃ p, (findA x l.frm).isSome = p := ⟨_, rfl⟩
  obtain ⟨d, hd⟩ : ∃ d, (findA c l.to).getD Acc.zero = d := ⟨_, rfl⟩
  obtain ⟨q, hq⟩ : ∃ q, (findA c l.to).isSome = q := ⟨_, rfl⟩
  have HB : Hid (∀ W, Accs W ao2 c cap2 b2 o2 → Calls Try.prog 28 #[.slice ao2 c.length cap2, .int .i64 l.to] W fun e w' => e = .returned (.tuple #[.agg #[.int .i64 d.code, .int .i64 d.kind, .int .i64 d.basis, .int .i64 d.parent], .bool q]) ∧ Keeps W w') := Lib.hid (fun W h => by
    have := find_any c l.to ao2 cap2 b2 o2 W h
    unfold AccO at this
    rw [hd, hq] at this
    exact this)
  have HA : Hid (∀ W, Accs W ao x cap b o → Calls Try.prog 28 #[.slice ao x.length cap, .int .i64 l.frm] W fun e w' => e = .returned (.tuple #[.agg #[.int .i64 a.code, .int .i64 a.kind, .int .i64 a.basis, .int .i64 a.parent], .bool p]) ∧ Keeps W w') := Lib.hid (fun W h => by
    have := find_any x l.frm ao cap b o W h
    unfold AccO at this
    rw [ha, hp] at this
    exact this)
  have hfin : linkB x c l = (p && q && (a.kind == d.kind) && dateB l.since) := by
    unfold linkB
    subst ha hp hd hq
    cases findA x l.frm <;> cases findA c l.to <;> simp
  have HF := Lib.hid hfin
  clear hfin ha hd hp hq H H2
  cases p with
  | false =>
    go_enter Try.func23, Try.ntmps23
    go_wp2_with (first | (go_at_call 27; refine (date_any _ _).mono ?_; rintro e3 w3 ⟨rfl, rfl⟩) | (go_at_call 28; (with_reducible refine (HB.out _ (HD.out.keeps K1.out)).mono ?_); rintro e2 w2 ⟨rfl, hk2⟩; have f2 := hk2.cell p2; have hz3 := World.block_lt_of_cell? _ _ f2; have q1 := hk2.cell p1; have hz2 := World.block_lt_of_cell? _ _ q1; have K2 := Lib.hid (K1.out.trans hk2); clear hk2 p1 p2 g1 g2) | (go_at_call 28; (with_reducible refine (HA.out _ (HC.out.keeps K0.out)).mono ?_); rintro e1 w1 ⟨rfl, hk1⟩; have g1 := hk1.cell (p := ⟨w.heap.size + 1, 1, none⟩) (v := .int .i64 l.to) (by go_simp); have g2 := hk1.cell (p := ⟨w.heap.size + 1, 2, none⟩) (v := .int .i64 l.since) (by go_simp); have hz1 := World.block_lt_of_cell? _ _ g1; have p2 : (w1.alloc (.cells #[.int .i64 a.code, .int .i64 a.kind, .int .i64 a.basis, .int .i64 a.parent] 50)).cell? ⟨w.heap.size + 1, 2, none⟩ = some (.int .i64 l.since) := (by go_simp); have p1 : (w1.alloc (.cells #[.int .i64 a.code, .int .i64 a.kind, .int .i64 a.basis, .int .i64 a.parent] 50)).cell? ⟨w1.heap.size, 1, none⟩ = some (.int .i64 a.kind) := (by go_simp); have K1 := Lib.hid ((K0.out.trans hk1).alloc (.cells #[.int .i64 a.code, .int .i64 a.kind, .int .i64 a.basis, .int .i64 a.parent] 50)); clear hk1))
    go_ret
    rw [HF.out]
    exact ⟨rfl, K2.out.alloc _⟩
  | true =>
    cases q with
    | false =>
      go_enter Try.func23, Try.ntmps23
      go_wp2_with (first | (go_at_call 27; refine (date_any _ _).mono ?_; rintro e3 w3 ⟨rfl, rfl⟩) | (go_at_call 28; (with_reducible refine (HB.out _ (HD.out.keeps K1.out)).mono ?_); rintro e2 w2 ⟨rfl, hk2⟩; have f2 := hk2.cell p2; have hz3 := World.block_lt_of_cell? _ _ f2; have q1 := hk2.cell p1; have hz2 := World.block_lt_of_cell? _ _ q1; have K2 := Lib.hid (K1.out.trans hk2); clear hk2 p1 p2 g1 g2) | (go_at_call 28; (with_reducible refine (HA.out _ (HC.out.keeps K0.out)).mono ?_); rintro e1 w1 ⟨rfl, hk1⟩; have g1 := hk1.cell (p := ⟨w.heap.size + 1, 1, none⟩) (v := .int .i64 l.to) (by go_simp); have g2 := hk1.cell (p := ⟨w.heap.size + 1, 2, none⟩) (v := .int .i64 l.since) (by go_simp); have hz1 := World.block_lt_of_cell? _ _ g1; have p2 : (w1.alloc (.cells #[.int .i64 a.code, .int .i64 a.kind, .int .i64 a.basis, .int .i64 a.parent] 50)).cell? ⟨w.heap.size + 1, 2, none⟩ = some (.int .i64 l.since) := (by go_simp); have p1 : (w1.alloc (.cells #[.int .i64 a.code, .int .i64 a.kind, .int .i64 a.basis, .int .i64 a.parent] 50)).cell? ⟨w1.heap.size, 1, none⟩ = some (.int .i64 a.kind) := (by go_simp); have K1 := Lib.hid ((K0.out.trans hk1).alloc (.cells #[.int .i64 a.code, .int .i64 a.kind, .int .i64 a.basis, .int .i64 a.parent] 50)); clear hk1))
      go_ret
      rw [HF.out]
      exact ⟨rfl, K2.out.alloc _⟩
    | true =>
      cases hk : (a.kind == d.kind) with
      | false =>
        rw [hk] at HF
        go_enter Try.func23, Try.ntmps23
        go_wp2_with (first | (go_at_call 27; refine (date_any _ _).mono ?_; rintro e3 w3 ⟨rfl, rfl⟩) | (go_at_call 28; (with_reducible refine (HB.out _ (HD.out.keeps K1.out)).mono ?_); rintro e2 w2 ⟨rfl, hk2⟩; have f2 := hk2.cell p2; have hz3 := World.block_lt_of_cell? _ _ f2; have q1 := hk2.cell p1; have hz2 := World.block_lt_of_cell? _ _ q1; have K2 := Lib.hid (K1.out.trans hk2); clear hk2 p1 p2 g1 g2) | (go_at_call 28; (with_reducible refine (HA.out _ (HC.out.keeps K0.out)).mono ?_); rintro e1 w1 ⟨rfl, hk1⟩; have g1 := hk1.cell (p := ⟨w.heap.size + 1, 1, none⟩) (v := .int .i64 l.to) (by go_simp); have g2 := hk1.cell (p := ⟨w.heap.size + 1, 2, none⟩) (v := .int .i64 l.since) (by go_simp); have hz1 := World.block_lt_of_cell? _ _ g1; have p2 : (w1.alloc (.cells #[.int .i64 a.code, .int .i64 a.kind, .int .i64 a.basis, .int .i64 a.parent] 50)).cell? ⟨w.heap.size + 1, 2, none⟩ = some (.int .i64 l.since) := (by go_simp); have p1 : (w1.alloc (.cells #[.int .i64 a.code, .int .i64 a.kind, .int .i64 a.basis, .int .i64 a.parent] 50)).cell? ⟨w1.heap.size, 1, none⟩ = some (.int .i64 a.kind) := (by go_simp); have K1 := Lib.hid ((K0.out.trans hk1).alloc (.cells #[.int .i64 a.code, .int .i64 a.kind, .int .i64 a.basis, .int .i64 a.parent] 50)); clear hk1))
        go_ret
        rw [HF.out]
        exact ⟨rfl, K2.out.alloc _⟩
      | true =>
        rw [hk] at HF
        go_enter Try.func23, Try.ntmps23
        go_wp2_with (first | (go_at_call 27; refine (date_any _ _).mono ?_; rintro e3 w3 ⟨rfl, rfl⟩) | (go_at_call 28; (with_reducible refine (HB.out _ (HD.out.keeps K1.out)).mono ?_); rintro e2 w2 ⟨rfl, hk2⟩; have f2 := hk2.cell p2; have hz3 := World.block_lt_of_cell? _ _ f2; have q1 := hk2.cell p1; have hz2 := World.block_lt_of_cell? _ _ q1; have K2 := Lib.hid (K1.out.trans hk2); clear hk2 p1 p2 g1 g2) | (go_at_call 28; (with_reducible refine (HA.out _ (HC.out.keeps K0.out)).mono ?_); rintro e1 w1 ⟨rfl, hk1⟩; have g1 := hk1.cell (p := ⟨w.heap.size + 1, 1, none⟩) (v := .int .i64 l.to) (by go_simp); have g2 := hk1.cell (p := ⟨w.heap.size + 1, 2, none⟩) (v := .int .i64 l.since) (by go_simp); have hz1 := World.block_lt_of_cell? _ _ g1; have p2 : (w1.alloc (.cells #[.int .i64 a.code, .int .i64 a.kind, .int .i64 a.basis, .int .i64 a.parent] 50)).cell? ⟨w.heap.size + 1, 2, none⟩ = some (.int .i64 l.since) := (by go_simp); have p1 : (w1.alloc (.cells #[.int .i64 a.code, .int .i64 a.kind, .int .i64 a.basis, .int .i64 a.parent] 50)).cell? ⟨w1.heap.size, 1, none⟩ = some (.int .i64 a.kind) := (by go_simp); have K1 := Lib.hid ((K0.out.trans hk1).alloc (.cells #[.int .i64 a.code, .int .i64 a.kind, .int .i64 a.basis, .int .i64 a.parent] 50)); clear hk1))
        go_ret
        rw [HF.out]
        exact ⟨retb (by simp), K2.out.alloc _⟩
end Go.Proofs.Ytppjjmjdiccloab
