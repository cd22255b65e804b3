/- The way up in the program: the walk. -/
import Derived.Test.YtppjjmjdiccloabClimbW
import Derived.Test.YtppjjmjdiccloabDates
import Derived.WalkMore
namespace Go.Proofs.Ytppjjmjdiccloab
open Go.RowKit
set_option linter.unusedSimpArgs false
set_option linter.unusedVariables false

def lenV : Value → Nat
  | .slice _ n _ => n
  | _ => 0
theorem lenV_own {w : World} {base e n : Nat} {v : Value} {xs : List Value} (h : w.ownsRow base e 1 v n xs) : lenV v = n := by
  obtain ⟨ao, cap, b, rfl, hs⟩ := Sl.own h
  rfl
theorem seenI_get (l : List Int) (x : Int) : (seenI l x).getD (.bool false) = .bool (l.contains x) := by
  unfold seenI
  cases l.contains x <;> rfl

theorem pathP_stop {l : List Acc} {n : Nat} {out : List Int} {c : Int} (hf : findA l c = none) : pathP l n out c = out := by
  cases n with
  | zero => rfl
  | succ n => simp only [pathP, hf]
theorem pathP_seen {l : List Acc} {n : Nat} {out : List Int} {c : Int} {a : Acc} (hf : findA l c = some a) (h : out.contains c = true) : pathP l n out c = out := by
  cases n with
  | zero => rfl
  | succ n => simp only [pathP, hf, h, if_true]
theorem pathP_next {l : List Acc} {n : Nat} {out : List Int} {c : Int} {a : Acc} (hf : findA l c = some a) (h : out.contains c = false) : pathP l (n + 1) out c = pathP l n (out ++ [c]) a.parent := by
  simp only [pathP, hf, h]; rfl
/-- The codes that have been seen. -/
def Seen (l : List Acc) (xs : List Int) : Prop := xs.Nodup ∧ ∀ c ∈ xs, (findA l c).isSome = true
theorem Seen.nil (l : List Acc) : Seen l [] := ⟨List.nodup_nil, by simp⟩
theorem Seen.le {l : List Acc} {xs : List Int} (h : Seen l xs) : xs.length ≤ l.length := codes_le h.1 h.2
theorem Seen.snoc {l : List Acc} {xs : List Int} {c : Int} {a : Acc} (h : Seen l xs) (hf : findA l c = some a) (hn : xs.contains c = false) : Seen l (xs ++ [c]) := by
  have hn' : c ∉ xs := by simpa using hn
  refine ⟨?_, fun d hd => ?_⟩
  · rw [List.nodup_append]
    refine ⟨h.1, by simp, ?_⟩
    intro x hx y hy e
    simp only [List.mem_singleton] at hy
    subst hy; exact hn' (e ▸ hx)
  · rcases List.mem_append.1 hd with hd | hd
    · exact h.2 d hd
    · simp only [List.mem_singleton] at hd; subst hd; rw [hf]; rfl

theorem pfind_none (l : List Acc) (code : Int) (ao : Option Addr) (cap b o : Nat) (w : World) (H : Accs w ao l cap b o) (hf : findA l code = none) :
    Calls Try.prog 28 #[.slice ao l.length cap, .int .i64 code] w fun e w' => e = .returned (.tuple #[.agg #[.int .i64 0, .int .i64 0, .int .i64 0, .int .i64 0], .bool false]) ∧ Keeps w w' := by
  have := find_any l code ao cap b o w H; rw [hf] at this; exact this
theorem pfind_some (l : List Acc) (code : Int) (p : Acc) (ao : Option Addr) (cap b o : Nat) (w : World) (H : Accs w ao l cap b o) (hf : findA l code = some p) :
    Calls Try.prog 28 #[.slice ao l.length cap, .int .i64 code] w fun e w' => e = .returned (.tuple #[.agg #[.int .i64 p.code, .int .i64 p.kind, .int .i64 p.basis, .int .i64 p.parent], .bool true]) ∧ Keeps w w' := by
  have := find_any l code ao cap b o w H; rw [hf] at this; exact this

set_option maxRecDepth 100000 in
set_option maxHeartbeats 2000000 in
theorem climb_any (l : List Acc) (c0 : Int) (ao : Option Addr) (cap b o : Nat) (w : World) (H : Accs w ao l cap b o) (hl : l.length ≤ 1000) (h0 : I64 c0) (hok : ∀ x ∈ l, I64 x.parent) :
    Calls Try.prog 45 #[.slice ao l.length cap, .int .i64 c0] w (OutI w (climbP l c0)) := by
  have hcap := Sl.cap H
  have hle := Sl.le H
  have HH := Lib.hid H
  have hmm := @run_makeMap Try.prog
  have HO := Lib.hid hok
  clear H hok
  go_enter Try.func45, Try.ntmps45
  go_wp2_with fail
  go_step3
  go_wp2_with fail
  go_step3
  go_wp2_with fail
  go_loopw [1, 5] (fun vc vo wr => ∃ (k : Nat) (c : Int) (xs : List Int), k ≤ l.length ∧ xs.length = k ∧ vc = .int .i64 c ∧ I64 c ∧ Hid (lenV vo = k ∧ Seen l xs ∧ climbP l c0 = pathP l (l.length + 1 - k) xs c) ∧ Hid (Keeps w wr ∧ VMap intK wr w.heap.size k (seenI xs) ∧ wr.ownsRow (w.heap.size + 1) 3 1 vo k (xs.map (.int .i64)))) (fun _ vo _ => l.length + 1 - lenV vo)
  case atStart => exact ⟨0, c0, [], Nat.zero_le _, rfl, rfl, h0, Lib.hid ⟨rfl, Seen.nil l, rfl⟩, Lib.hid ⟨(Keeps.refl w).alloc _, VMap.made intK w, World.ownsRow_nil _ _ _ _⟩⟩
  case round =>
    obtain ⟨k, c, xs, hk, hxs, rfl, hc64, HP, HW⟩ := hrel
    cases hf : findA l c with
    | none =>
      have HE : Hid (climbP l c0 = xs) := Lib.hid (by rw [HP.out.2.2, pathP_stop hf])
      go_wp2_with (first | (go_at_call 28; refine (pfind_none l c ao cap b o _ (HH.out.keeps HW.out.1) hf).mono ?_; rintro e1 w1 ⟨rfl, hk1⟩; have HW1 : Hid (Keeps w w1 ∧ w1.ownsRow (w.heap.size + 1) 3 1 u5 k (xs.map (.int .i64))) := Lib.hid ⟨HW.out.1.trans hk1, own_keeps HW.out.2.2 hk1⟩; clear hk1))
      rw [Exit.noGoto_ret]
      go_ret
      rw [HE.out]
      refine ⟨_, rfl, IntL.own (base := w.heap.size + 1) (e := 3) ?_, HW1.out.1.alloc _⟩
      rw [hxs]; exact HW1.out.2.alloc _
    | some a =>
      cases hin : xs.contains c with
      | true =>
        have HE : Hid (climbP l c0 = xs) := Lib.hid (by rw [HP.out.2.2, pathP_seen hf hin])
        go_wp2_with (first | (go_at_call 28; refine (pfind_some l c a ao cap b o _ (HH.out.keeps HW.out.1) hf).mono ?_; rintro e1 w1 ⟨rfl, hk1⟩; have HW1 : Hid (Keeps w w1 ∧ w1.ownsRow (w.heap.size + 1) 3 1 u5 k (xs.map (.int .i64))) := Lib.hid ⟨HW.out.1.trans hk1, own_keeps HW.out.2.2 hk1⟩; have HM1 : Hid (VMap intK w1 w.heap.size k (seenI xs)) := Lib.hid (HW.out.2.1.keeps hk1); have hlk : (Instr.lookup 59 (.map (some w.heap.size)) (.int .i64 c) false).run Try.prog (w1.alloc (.cells #[.int .i64 a.code, .int .i64 a.kind, .int .i64 a.basis, .int .i64 a.parent] 50)) = .ok (.bool true) (w1.alloc (.cells #[.int .i64 a.code, .int .i64 a.kind, .int .i64 a.basis, .int .i64 a.parent] 50)) := (by have := (HM1.out.alloc (.cells #[.int .i64 a.code, .int .i64 a.kind, .int .i64 a.basis, .int .i64 a.parent] 50)).look Try.underlying59 (fun w => Try.zeroValue4 w) (a := c) hc64 _ rfl; rw [seenI_get, hin] at this; exact this); clear hk1))
        rw [Exit.noGoto_ret]
        go_ret
        rw [HE.out]
        refine ⟨_, rfl, IntL.own (base := w.heap.size + 1) (e := 3) ?_, HW1.out.1.alloc _⟩
        rw [hxs]; exact HW1.out.2.alloc _
      | false =>
        have HS2 : Hid (Seen l (xs ++ [c]) ∧ climbP l c0 = pathP l (l.length + 1 - (k + 1)) (xs ++ [c]) a.parent) := Lib.hid ⟨HP.out.2.1.snoc hf hin, by
          rw [HP.out.2.2]
          obtain ⟨m, hm⟩ : ∃ m, l.length + 1 - k = m + 1 := ⟨l.length - k, by omega⟩
          rw [hm, show l.length + 1 - (k + 1) = m from by omega, pathP_next hf hin]⟩
        have hk2 : k + 1 ≤ l.length := by have := HS2.out.1.le; simp at this; omega
        have hp64 := HO.out _ (findA_mem hf).1
        have hlv := HP.out.1
        go_wp2_with (first | (go_at_call 28; refine (pfind_some l c a ao cap b o _ (HH.out.keeps HW.out.1) hf).mono ?_; rintro e1 w1 ⟨rfl, hk1⟩; have HW1 : Hid (Keeps w w1 ∧ w1.ownsRow (w.heap.size + 1) 3 1 u5 k (xs.map (.int .i64))) := Lib.hid ⟨HW.out.1.trans hk1, own_keeps HW.out.2.2 hk1⟩; have HM1 : Hid (VMap intK w1 w.heap.size k (seenI xs)) := Lib.hid (HW.out.2.1.keeps hk1); have hlk : (Instr.lookup 59 (.map (some w.heap.size)) (.int .i64 c) false).run Try.prog (w1.alloc (.cells #[.int .i64 a.code, .int .i64 a.kind, .int .i64 a.basis, .int .i64 a.parent] 50)) = .ok (.bool false) (w1.alloc (.cells #[.int .i64 a.code, .int .i64 a.kind, .int .i64 a.basis, .int .i64 a.parent] 50)) := (by have := (HM1.out.alloc (.cells #[.int .i64 a.code, .int .i64 a.kind, .int .i64 a.basis, .int .i64 a.parent] 50)).look Try.underlying59 (fun w => Try.zeroValue4 w) (a := c) hc64 _ rfl; rw [seenI_get, hin] at this; exact this); have hml := HM1.out.lt; clear hk1) | (refine wpList_vstore (K := intK) rfl _ _ _ 59 rfl Try.underlying59 w.heap.size k rfl (HM1.out.alloc _) (by unfold maxLen; omega) c hc64 rfl (.bool true) rfl (seenI (xs ++ [c])) (seenI_snoc _ _).1 (fun d _ hd => (seenI_snoc _ _).2 d hd) ?_; intro w3 hm3 hg3; have d3 := hg3.cell (show (w1.alloc (.cells #[.int .i64 a.code, .int .i64 a.kind, .int .i64 a.basis, .int .i64 a.parent] 50)).cell? ⟨w1.heap.size, 3, none⟩ = some (.int .i64 a.parent) by go_simp) (fun e => by simp at e; omega); have hb3 := World.block_lt_of_cell? _ _ d3; have HX3 : Hid (Keeps w w3 ∧ VMap intK w3 w.heap.size (k + 1) (seenI (xs ++ [c])) ∧ w3.ownsRow (w.heap.size + 1) 3 1 u5 k (xs.map (.int .i64))) := Lib.hid ⟨Below.grown (HW1.out.1.alloc _) hg3 (by have := HW1.out.1.size; simp; omega) (fun j hj => by cases hj; exact Nat.le_refl _), hm3, (HW1.out.2.alloc _).kept hg3 (Classical.or_iff_not_imp_left.2 fun _ e => by have := (HW1.out.2.lt _ e).1; omega)⟩; clear hm3 hg3) | (at_builtin; (refine wpList_app_raw elemInt rfl _ _ rfl _ _ _ rfl (w.heap.size + 1) HX3.out.2.2 HX3.out.2.1.lt [.int .i64 c] _ 1 rfl (by simp) rfl (by intro u hu; simp at hu; subst hu; rfl) (by omega) (by omega) ?_; intro v2 w2 hown2 hgrow2 hat2; have d3' := hgrow2.cell (show (w3.alloc (.cells #[.int .i64 c] 3)).cell? ⟨w1.heap.size, 3, none⟩ = some (.int .i64 a.parent) by go_simp) (fun e => Nat.lt_irrefl w1.heap.size (HW1.out.2.lt w1.heap.size e.symm).2); have hb2 := World.block_lt_of_cell? _ _ d3'; have HX : Hid (lenV v2 = k + 1 ∧ Keeps w w2 ∧ VMap intK w2 w.heap.size (k + 1) (seenI (xs ++ [c])) ∧ w2.ownsRow (w.heap.size + 1) 3 1 v2 (k + 1) ((xs ++ [c]).map (.int .i64))) := Lib.hid ⟨lenV_own hown2, Below.grown (HX3.out.1.alloc _) hgrow2 (by have := HX3.out.1.size; simp; omega) (fun j hj => by have := (HX3.out.2.2.lt j hj).1; omega), (HX3.out.2.1.alloc _).kept hgrow2 (fun e => by have := (HX3.out.2.2.lt _ e.symm).1; omega), by rw [List.map_append]; exact hown2⟩; clear hown2 hgrow2 hat2)))
        go_roundw
        case rel => exact ⟨k + 1, a.parent, xs ++ [c], hk2, by simp [hxs], rfl, hp64, Lib.hid ⟨HX.out.1, HS2.out⟩, Lib.hid HX.out.2⟩
        case measure => simp [HX.out.1, hlv]; omega
end Go.Proofs.Ytppjjmjdiccloab
