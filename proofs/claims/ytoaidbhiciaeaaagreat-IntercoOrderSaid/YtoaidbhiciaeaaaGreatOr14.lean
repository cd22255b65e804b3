/- Walks and plain facts that the claim rests on (GrpW, GrpC, GrpA). No condition. -/
import Derived.Test.YtoaidbhiciaeaaaGreatOr13
import Derived.Deep.MidRow
section
namespace Go.Proofs.YtoaidbhiciaeaaaGreat
open Go.RowKit
set_option linter.unusedSimpArgs false
set_option linter.unusedVariables false
set_option maxRecDepth 100000 in
set_option maxHeartbeats 2000000 in
theorem rolesP_any (r : Rls) (w : World) : Calls Tryz.prog 102 #[.agg #[.int .i64 r.r0, .int .i64 r.r1, .int .i64 r.r2, .int .i64 r.r3, .int .i64 r.r4, .int .i64 r.r5, .int .i64 r.r6, .int .i64 r.r7, .int .i64 r.r8, .int .i64 r.r9, .int .i64 r.r10, .int .i64 r.r11, .int .i64 r.r12, .int .i64 r.r13, .int .i64 r.r14]] w fun e w' => e = .returned (.slice (some ⟨w.heap.size + 1, 0, none⟩) 15 15) ∧ Recs w' 5 Rol.cells (some ⟨w.heap.size + 1, 0, none⟩) (rolesL r) 15 (w.heap.size + 1) 0 ∧ Keeps w w' := by
  have hl := Sl.lit (w.alloc (.cells #[.int .i64 r.r0, .int .i64 r.r1, .int .i64 r.r2, .int .i64 r.r3, .int .i64 r.r4, .int .i64 r.r5, .int .i64 r.r6, .int .i64 r.r7, .int .i64 r.r8, .int .i64 r.r9, .int .i64 r.r10, .int .i64 r.r11, .int .i64 r.r12, .int .i64 r.r13, .int .i64 r.r14] 26)) 5 15 ((rolesL r).flatMap Rol.cells) 169 rfl (by omega)
  rw [World.size_alloc] at hl
  have HL := Lib.hid hl
  clear hl
  go_enter Tryz.func102, Tryz.ntmps102
  go_wp2_with fail
  go_ret
  exact ⟨rfl, HL.out, ((Keeps.refl w).alloc _).alloc _⟩
set_option maxHeartbeats 2000000 in
theorem basedP_any (a : Acc) (w : World) : Calls Tryz.prog 101 #[.agg #[.int .i64 a.code, .int .i64 a.kind, .int .i64 a.basis, .int .i64 a.parent]] w fun e w' => e = .returned (.bool (basedB a)) ∧ Keeps w w' := by
  obtain ⟨p1, h1⟩ : ∃ p, (a.kind == 1) = p := ⟨_, rfl⟩
  obtain ⟨p2, h2⟩ : ∃ p, (a.kind == 2) = p := ⟨_, rfl⟩
  obtain ⟨p3, h3⟩ : ∃ p, (a.kind == 3) = p := ⟨_, rfl⟩
  obtain ⟨b1, k1⟩ : ∃ p, (a.basis == 1) = p := ⟨_, rfl⟩
  obtain ⟨b2, k2⟩ : ∃ p, (a.basis == 2) = p := ⟨_, rfl⟩
  obtain ⟨b3, k3⟩ : ∃ p, (a.basis == 3) = p := ⟨_, rfl⟩
  have HB : Hid (basedB a = if (p1 || p2) = true then b1 || b3 else if p3 = true then b3 else b2) := Lib.hid (by
    unfold basedB
    rw [← h1, ← h2, ← h3, ← k1, ← k2, ← k3]
    simp)
  cases p1 with
  | true => cases b1 <;> cases b3 <;> (go_enter Tryz.func101, Tryz.ntmps101; go_wp2_with fail; go_ret; exact ⟨by rw [HB.out]; rfl, (Keeps.refl w).alloc _⟩)
  | false =>
    cases p2 with
    | true => cases b1 <;> cases b3 <;> (go_enter Tryz.func101, Tryz.ntmps101; go_wp2_with fail; go_ret; exact ⟨by rw [HB.out]; rfl, (Keeps.refl w).alloc _⟩)
    | false =>
      cases p3 with
      | true => cases b3 <;> (go_enter Tryz.func101, Tryz.ntmps101; go_wp2_with fail; go_ret; exact ⟨by rw [HB.out]; rfl, (Keeps.refl w).alloc _⟩)
      | false => cases b2 <;> (go_enter Tryz.func101, Tryz.ntmps101; go_wp2_with fail; go_ret; exact ⟨by rw [HB.out]; rfl, (Keeps.refl w).alloc _⟩)
theorem acc1_any (a : Acc) (w : World) : Calls Tryz.prog 100 #[.agg #[.int .i64 a.code, .int .i64 a.kind, .int .i64 a.basis, .int .i64 a.parent]] w fun e w' => e = .returned (.bool (!basedB a)) ∧ Keeps w w' := by
  have HB : Hid (∀ W, Calls Tryz.prog 101 #[.agg #[.int .i64 a.code, .int .i64 a.kind, .int .i64 a.basis, .int .i64 a.parent]] W fun e w' => e = .returned (.bool (basedB a)) ∧ Keeps W w') := Lib.hid (fun W => basedP_any a W)
  obtain ⟨q, hq⟩ : ∃ q, basedB a = q := ⟨_, rfl⟩
  rw [hq] at HB ⊢
  clear hq
  go_enter Tryz.func100, Tryz.ntmps100
  go_wp2_with (go_at_call 101; refine (HB.out _).mono ?_; rintro e w1 ⟨rfl, hk1⟩)
  go_ret
  exact ⟨rfl, ((Keeps.refl w).alloc _).trans hk1⟩
end Go.Proofs.YtoaidbhiciaeaaaGreat

end
section
namespace Go.Proofs.YtoaidbhiciaeaaaGreat
open Go.RowKit
set_option linter.unusedSimpArgs false
set_option linter.unusedVariables false
def clsF (l : List Rol) : Int → Option Value := fun c => (l.reverse.find? (fun r => r.code == c)).map (fun r => .bool (!r.mapped))
theorem clsF_nil : clsF [] = fun _ => none := rfl
theorem clsF_get (l : List Rol) (c : Int) : (clsF l c).getD (.bool false) = .bool (closedP l c) := by
  unfold clsF closedP
  cases l.reverse.find? (fun r => r.code == c) <;> rfl
theorem clsF_snoc (l : List Rol) (r : Rol) : clsF (l ++ [r]) r.code = some (.bool (!r.mapped)) ∧ ∀ d, d ≠ r.code → clsF (l ++ [r]) d = clsF l d := by
  unfold clsF
  rw [List.reverse_append]
  refine ⟨by simp, fun d hd => ?_⟩
  have : (r.code == d) = false := by simpa using fun e => hd e.symm
  simp [this]
theorem ent1_any (l : Lnk) (rs : List Rol) (bs mb mn : Nat) (w : World) (he : w.cell? ⟨bs, 0, none⟩ = some (.map (some mb))) (hp : VMap intK w mb mn (clsF rs)) (hok : I64 l.to) :
    Calls Tryz.prog 107 #[.agg #[.int .i64 l.frm, .int .i64 l.to, .int .i64 l.since], .pointer (some ⟨bs, 0, none⟩)] w fun e w' => e = .returned (.bool (closedP rs l.to)) ∧ Keeps w w' := by
  have hbe := World.block_lt_of_cell? _ _ he
  simp only at hbe
  have hlk : (Instr.lookup 140 (.map (some mb)) (.int .i64 l.to) false).run Tryz.prog (w.alloc (.cells #[.int .i64 l.frm, .int .i64 l.to, .int .i64 l.since] 162)) = .ok (.bool (closedP rs l.to)) (w.alloc (.cells #[.int .i64 l.frm, .int .i64 l.to, .int .i64 l.since] 162)) := by
    have := (hp.alloc (.cells #[.int .i64 l.frm, .int .i64 l.to, .int .i64 l.since] 162)).look Tryz.underlying140 (fun w => Tryz.zeroValue4 w) (a := l.to) hok _ rfl
    rw [clsF_get] at this
    exact this
  clear hp
  go_enter Tryz.func107, Tryz.ntmps107
  go_wp2_with fail
  go_ret
  exact ⟨rfl, (Keeps.refl w).alloc _⟩
def IdxPostQ {α : Type} (w : World) (q : α → Bool) (xs : List α) (e : Ending) (w' : World) : Prop := Keeps w w' ∧ ∃ r : Int, e = .returned (.int .i64 r) ∧ decide (0 ≤ r) = xs.any q
theorem any_take_all {α : Type} {q : α → Bool} {xs : List α} (h : ∀ j (hj : j < xs.length), q xs[j] = false) : xs.any q = false := by
  rw [List.any_eq_false]
  intro x hx
  obtain ⟨j, hj, rfl⟩ := List.getElem_of_mem hx
  rw [h j hj]; simp
theorem any_at {α : Type} {q : α → Bool} {xs : List α} {k : Nat} (hk : k < xs.length) (h : q xs[k] = true) : xs.any q = true := List.any_eq_true.2 ⟨xs[k], List.getElem_mem .., h⟩
set_option maxHeartbeats 1000000 in
theorem idxA_any (ao : Option Addr) (xs : List Acc) (cap b o : Nat) (w : World) (H : Accs w ao xs cap b o) :
    Calls Tryz.prog 145 #[.slice ao xs.length cap, .func (.func 100) #[] #[]] w (IdxPostQ w (fun a => !basedB a) xs) := by
  have hcap := Sl.cap H
  have hle := Sl.le H
  have HH := Lib.hid H
  clear H
  go_enter Tryz.func145, Tryz.ntmps145
  go_wp2_with fail
  go_loopw [8] (fun vi wr => ∃ k : Nat, k ≤ xs.length ∧ vi = .int .i64 k ∧ Hid (Keeps w wr) ∧ Hid (∀ j (hj : j < xs.length), j < k → (fun a=>!basedB a) xs[j] = false)) (fun vi _ => xs.length - (intOf vi).toNat)
  case atStart => exact ⟨0, Nat.zero_le _, rfl, Lib.hid (Keeps.refl w), Lib.hid (fun j _ hj => absurd hj (Nat.not_lt_zero j))⟩
  case round =>
    obtain ⟨k, hk, rfl, HK, HZ⟩ := hrel
    by_cases hlt : k < xs.length
    · have hr := HH.out.keeps HK.out
      have hix := Sl.at hr Tryz.underlying24 Tryz.sizeOf68 k hlt
      obtain ⟨p, hpk⟩ : ∃ p, xs[k] = p := ⟨_, rfl⟩
      have c0 := hr.cell Acc.len k hlt 0 (.int .i64 p.code) (by rw [hpk]; rfl); have c1 := hr.cell Acc.len k hlt 1 (.int .i64 p.kind) (by rw [hpk]; rfl); have c2 := hr.cell Acc.len k hlt 2 (.int .i64 p.basis) (by rw [hpk]; rfl); have c3 := hr.cell Acc.len k hlt 3 (.int .i64 p.parent) (by rw [hpk]; rfl); simp only [Nat.add_zero, Nat.zero_add] at c0 hix
      have HB := Lib.hid (acc1_any p wr)
      have HP := Lib.hid hpk
      clear hr hpk
      cases hob : (!basedB p) with
      | true =>
        have HO : Hid (xs.any (fun a=>!basedB a) = true) := Lib.hid (any_at hlt (by rw [HP.out]; exact hob))
        rw [hob] at HB
        clear hob
        go_wp2_with (go_at_call 100; refine HB.out.mono ?_; rintro e w1 ⟨rfl, hk1⟩)
        go_ret
        exact ⟨HK.out.trans hk1, _, rfl, by rw [HO.out]; exact decide_eq_true (by omega)⟩
      | false =>
        have HZ2 : Hid (∀ j (hj : j < xs.length), j < k + 1 → (fun a=>!basedB a) xs[j] = false) := Lib.hid (fun j hj h => by
          by_cases e : j < k
          · exact HZ.out j hj e
          · obtain rfl : j = k := by omega
            rw [HP.out]; exact hob)
        rw [hob] at HB
        clear hob
        go_wp2_with (go_at_call 100; refine HB.out.mono ?_; rintro e w1 ⟨rfl, hk1⟩)
        go_roundw
        case rel => exact ⟨k + 1, by omega, by go_num, Lib.hid (HK.out.trans hk1), HZ2⟩
        case measure => simp [intOf]; omega
    · go_wp2_with fail
      go_ret
      exact ⟨HK.out, _, rfl, by rw [any_take_all (fun j hj => HZ.out j hj (by omega))]; rfl⟩
theorem hasA_any (ao : Option Addr) (xs : List Acc) (cap b o : Nat) (w : World) (H : Accs w ao xs cap b o) :
    Calls Tryz.prog 99 #[.slice ao xs.length cap, .func (.func 100) #[] #[]] w fun e w' => e = .returned (.bool (xs.any (fun a => !basedB a))) ∧ Keeps w w' := by
  obtain ⟨q, hq⟩ : ∃ q, xs.any (fun a=>!basedB a) = q := ⟨_, rfl⟩
  rw [hq]
  have HI : Hid (Calls Tryz.prog 145 #[.slice ao xs.length cap, .func (.func 100) #[] #[]] w fun e w' => Keeps w w' ∧ ∃ r : Int, e = .returned (.int .i64 r) ∧ decide (0 ≤ r) = q) := Lib.hid (by
    have := idxA_any ao xs cap b o w H
    unfold IdxPostQ at this
    rw [hq] at this
    exact this)
  clear hq
  go_enter Tryz.func99, Tryz.ntmps99
  go_wp2_with (go_at_call 145; refine HI.out.mono ?_; rintro e w1 ⟨hk1, r, rfl, hr⟩)
  go_ret
  exact ⟨rfl, hk1⟩
set_option maxHeartbeats 1000000 in
theorem idxL_any (rs : List Rol) (bs mb mn : Nat) (ao : Option Addr) (xs : List Lnk) (cap b o : Nat) (w : World) (H : Lnks w ao xs cap b o) (he : w.cell? ⟨bs, 0, none⟩ = some (.map (some mb))) (hp : VMap intK w mb mn (clsF rs)) (hok : ∀ l ∈ xs, l.OkL) :
    Calls Tryz.prog 148 #[.slice ao xs.length cap, .func (.func 107) #[] #[.pointer (some ⟨bs, 0, none⟩)]] w (IdxPostQ w (fun l => closedP rs l.to) xs) := by
  have hcap := Sl.cap H
  have hle := Sl.le H
  have HH := Lib.hid H
  clear H
  go_enter Tryz.func148, Tryz.ntmps148
  go_wp2_with fail
  go_loopw [8] (fun vi wr => ∃ k : Nat, k ≤ xs.length ∧ vi = .int .i64 k ∧ Hid (Keeps w wr) ∧ Hid (∀ j (hj : j < xs.length), j < k → (fun l=>closedP rs l.to) xs[j] = false)) (fun vi _ => xs.length - (intOf vi).toNat)
  case atStart => exact ⟨0, Nat.zero_le _, rfl, Lib.hid (Keeps.refl w), Lib.hid (fun j _ hj => absurd hj (Nat.not_lt_zero j))⟩
  case round =>
    obtain ⟨k, hk, rfl, HK, HZ⟩ := hrel
    by_cases hlt : k < xs.length
    · have hr := HH.out.keeps HK.out
      have hix := Sl.at hr Tryz.underlying104 Tryz.sizeOf162 k hlt
      obtain ⟨p, hpk⟩ : ∃ p, xs[k] = p := ⟨_, rfl⟩
      have c0 := hr.cell Lnk.len k hlt 0 (.int .i64 p.frm) (by rw [hpk]; rfl); have c1 := hr.cell Lnk.len k hlt 1 (.int .i64 p.to) (by rw [hpk]; rfl); have c2 := hr.cell Lnk.len k hlt 2 (.int .i64 p.since) (by rw [hpk]; rfl); simp only [Nat.add_zero, Nat.zero_add] at c0 hix
      have HB := Lib.hid (ent1_any p rs bs mb mn wr (HK.out.cell he) (hp.keeps HK.out) (by rw [← hpk]; exact (hok _ (List.getElem_mem ..)).2.1))
      have HP := Lib.hid hpk
      clear hr hpk
      cases hob : (closedP rs p.to) with
      | true =>
        have HO : Hid (xs.any (fun l=>closedP rs l.to) = true) := Lib.hid (any_at hlt (by rw [HP.out]; exact hob))
        rw [hob] at HB
        clear hob
        go_wp2_with (go_at_call 107; refine HB.out.mono ?_; rintro e w1 ⟨rfl, hk1⟩)
        go_ret
        exact ⟨HK.out.trans hk1, _, rfl, by rw [HO.out]; exact decide_eq_true (by omega)⟩
      | false =>
        have HZ2 : Hid (∀ j (hj : j < xs.length), j < k + 1 → (fun l=>closedP rs l.to) xs[j] = false) := Lib.hid (fun j hj h => by
          by_cases e : j < k
          · exact HZ.out j hj e
          · obtain rfl : j = k := by omega
            rw [HP.out]; exact hob)
        rw [hob] at HB
        clear hob
        go_wp2_with (go_at_call 107; refine HB.out.mono ?_; rintro e w1 ⟨rfl, hk1⟩)
        go_roundw
        case rel => exact ⟨k + 1, by omega, by go_num, Lib.hid (HK.out.trans hk1), HZ2⟩
        case measure => simp [intOf]; omega
    · go_wp2_with fail
      go_ret
      exact ⟨HK.out, _, rfl, by rw [any_take_all (fun j hj => HZ.out j hj (by omega))]; rfl⟩
theorem hasL_any (rs : List Rol) (bs mb mn : Nat) (ao : Option Addr) (xs : List Lnk) (cap b o : Nat) (w : World) (H : Lnks w ao xs cap b o) (he : w.cell? ⟨bs, 0, none⟩ = some (.map (some mb))) (hp : VMap intK w mb mn (clsF rs)) (hok : ∀ l ∈ xs, l.OkL) :
    Calls Tryz.prog 106 #[.slice ao xs.length cap, .func (.func 107) #[] #[.pointer (some ⟨bs, 0, none⟩)]] w fun e w' => e = .returned (.bool (xs.any (fun l => closedP rs l.to))) ∧ Keeps w w' := by
  obtain ⟨q, hq⟩ : ∃ q, xs.any (fun l=>closedP rs l.to) = q := ⟨_, rfl⟩
  rw [hq]
  have HI : Hid (Calls Tryz.prog 148 #[.slice ao xs.length cap, .func (.func 107) #[] #[.pointer (some ⟨bs, 0, none⟩)]] w fun e w' => Keeps w w' ∧ ∃ r : Int, e = .returned (.int .i64 r) ∧ decide (0 ≤ r) = q) := Lib.hid (by
    have := idxL_any rs bs mb mn ao xs cap b o w H he hp hok
    unfold IdxPostQ at this
    rw [hq] at this
    exact this)
  clear hq
  go_enter Tryz.func106, Tryz.ntmps106
  go_wp2_with (go_at_call 148; refine HI.out.mono ?_; rintro e w1 ⟨hk1, r, rfl, hr⟩)
  go_ret
  exact ⟨rfl, hk1⟩
end Go.Proofs.YtoaidbhiciaeaaaGreat

end
section
namespace Go.Proofs.YtoaidbhiciaeaaaGreat
open Go.RowKit
set_option linter.unusedSimpArgs false
set_option linter.unusedVariables false
theorem keeps_grown {a b : World} (h : Keeps a b) (row : Option Nat) : a.grownBy b row := ⟨h.os, h.tape, h.output, h.size, fun i hi _ => h.block i hi⟩
theorem Sl.grownR {w w' : World} {sz : Nat} {ao : Option Addr} {n cap b o : Nat} {cs : List Value} {row : Option Nat} (h : Sl w sz ao n cap b o cs) (hg : w.grownBy w' row) (hne : some b ≠ row) : Sl w' sz ao n cap b o cs :=
  ⟨h.len, h.le, h.nocap, h.cap, h.addr, fun j u hu => hg.cell (Sl.cell h j u hu) hne⟩
theorem seenI_get' (xs : List Int) (c : Int) : (seenI xs c).getD (.bool false) = .bool (xs.contains c) := by
  unfold seenI
  cases h : xs.contains c <;> rfl
theorem seenR (l : List Rol) (k : Nat) (c : Int) : ((l.take k).map Rol.code).contains c = (l.take k).any (fun q => q.code == c) := by
  rw [List.contains_eq_any_beq, List.any_map]
  congr 1
  funext q
  simp only [Function.comp]
  rw [Bool.eq_iff_iff, beq_iff_eq, beq_iff_eq]
  exact eq_comm
theorem grp_roles (g : Grp) (cv ev : Value) : ∀ j v, g.rl.vals[j]? = some v → (g.cells cv ev)[5 + j]? = some v := fun j v h => by
  rw [Nat.add_comm]
  show (g.rl.vals ++ [ev])[j]? = some v
  rw [List.getElem?_append_left (List.getElem?_eq_some_iff.1 h).1]
  exact h
theorem accB_1 {g : Grp} (h : validRB g.chart true = false) : accB g = false := by unfold accB; rw [h]; rfl
theorem accB_2 {g : Grp} (h : g.chart.any (fun a => !basedB a) = true) : accB g = false := by unfold accB; rw [h]; simp
theorem accB_3 {g : Grp} {k : Nat} (hk : k < (rolesL g.rl).length) (h : okRole g.chart (rolesL g.rl) k = false) : accB g = false := by
  unfold accB
  rw [allr_false hk h]; simp
theorem accB_4 {g : Grp} (h1 : validRB g.chart true = true) (h2 : g.chart.any (fun a => !basedB a) = false) (h : ∀ k, k < (rolesL g.rl).length → okRole g.chart (rolesL g.rl) k = true) : accB g = true := by
  unfold accB
  rw [allr_true h, h1, h2]; rfl
set_option maxRecDepth 100000 in
set_option maxHeartbeats 8000000 in
theorem acc_any (g : Grp) (ev : Value) (aoC : Option Addr) (capC bC oC : Nat) (w : World) (H : Accs w aoC g.chart capC bC oC) (hlen : g.chart.length ≤ 200) (hok : ∀ x ∈ g.chart, x.OkA) (hro : g.rl.Ok) :
    Calls Tryz.prog 64 #[.agg #[.string g.cur, .int .i64 g.y, .int .i64 g.m, .int .i64 g.n, .slice aoC g.chart.length capC, .int .i64 g.rl.r0, .int .i64 g.rl.r1, .int .i64 g.rl.r2, .int .i64 g.rl.r3, .int .i64 g.rl.r4, .int .i64 g.rl.r5, .int .i64 g.rl.r6, .int .i64 g.rl.r7, .int .i64 g.rl.r8, .int .i64 g.rl.r9, .int .i64 g.rl.r10, .int .i64 g.rl.r11, .int .i64 g.rl.r12, .int .i64 g.rl.r13, .int .i64 g.rl.r14, ev]] w fun e w' => e = .returned (.bool (accB g)) ∧ Keeps w w' := by
  have hmm := @run_makeMap Tryz.prog
  have HC := Lib.hid H
  have HGB : Hid (RowB (w.alloc (.cells (g.cells (.slice aoC g.chart.length capC) ev).toArray 29)) w.heap.size 29 (g.cells (.slice aoC g.chart.length capC) ev)) := Lib.hid (RowB.new w _ _)
  have HV : Hid (∀ W, Keeps w W → Calls Tryz.prog 98 #[.slice aoC g.chart.length capC, .bool true] W fun e w' => e = .returned (.bool (validRB g.chart true)) ∧ Keeps W w') := Lib.hid (fun W hk => by have := valid_any g.chart true aoC capC bC oC W (H.keeps hk) hlen hok; rw [valid_eq] at this; exact this)
  have HA : Hid (∀ W, Keeps w W → Calls Tryz.prog 99 #[.slice aoC g.chart.length capC, .func (.func 100) #[] #[]] W fun e w' => e = .returned (.bool (g.chart.any (fun a => !basedB a))) ∧ Keeps W w') := Lib.hid (fun W hk => hasA_any aoC g.chart capC bC oC W (H.keeps hk))
  cases h1 : validRB g.chart true with
  | false =>
    have HBD := Lib.hid (accB_1 h1)
    rw [h1] at HV
    clear h1
    go_enter Tryz.func64, Tryz.ntmps64
    go_wp2_with (go_at_call 98; (refine (HV.out _ ((Keeps.refl w).alloc _)).mono ?_); rintro e1 w1 ⟨rfl, hk1⟩; have K1 := Lib.hid (((Keeps.refl w).alloc (.cells (g.cells (.slice aoC g.chart.length capC) ev).toArray 29)).trans hk1); have G1 := Lib.hid (HGB.out.keeps hk1); have g4 := hk1.cell (p := ⟨w.heap.size, 4, none⟩) (v := .slice aoC g.chart.length capC) (by go_simp); have hz1 := World.block_lt_of_cell? _ _ g4; clear hk1)
    go_ret
    rw [HBD.out]
    exact ⟨rfl, K1.out⟩
  | true =>
    rw [h1] at HV
    have H1 := Lib.hid h1
    clear h1
    cases h2 : g.chart.any (fun a => !basedB a) with
    | true =>
      have HBD := Lib.hid (accB_2 h2)
      rw [h2] at HA
      clear h2
      go_enter Tryz.func64, Tryz.ntmps64
      go_wp2_with (first | (go_at_call 99; (refine (HA.out _ K1.out).mono ?_); rintro e2 w2 ⟨rfl, hk2⟩; have K2 := Lib.hid (K1.out.trans hk2); have G2 := Lib.hid (G1.out.keeps hk2); have hz2 := Nat.lt_of_lt_of_le hz1 hk2.size; clear hk2 hz1) | (go_at_call 98; (refine (HV.out _ ((Keeps.refl w).alloc _)).mono ?_); rintro e1 w1 ⟨rfl, hk1⟩; have K1 := Lib.hid (((Keeps.refl w).alloc (.cells (g.cells (.slice aoC g.chart.length capC) ev).toArray 29)).trans hk1); have G1 := Lib.hid (HGB.out.keeps hk1); have g4 := hk1.cell (p := ⟨w.heap.size, 4, none⟩) (v := .slice aoC g.chart.length capC) (by go_simp); have hz1 := World.block_lt_of_cell? _ _ g4; clear hk1))
      go_ret
      rw [HBD.out]
      exact ⟨rfl, K2.out⟩
    | false =>
      have H2 := Lib.hid h2
      rw [h2] at HA
      clear h2
      obtain ⟨l, hl⟩ : ∃ l, rolesL g.rl = l := ⟨_, rfl⟩
      have hll : l.length = 15 := by rw [← hl]; rfl
      have HRO : Hid (∀ W, Calls Tryz.prog 102 #[.agg #[.int .i64 g.rl.r0, .int .i64 g.rl.r1, .int .i64 g.rl.r2, .int .i64 g.rl.r3, .int .i64 g.rl.r4, .int .i64 g.rl.r5, .int .i64 g.rl.r6, .int .i64 g.rl.r7, .int .i64 g.rl.r8, .int .i64 g.rl.r9, .int .i64 g.rl.r10, .int .i64 g.rl.r11, .int .i64 g.rl.r12, .int .i64 g.rl.r13, .int .i64 g.rl.r14]] W fun e w' => ∃ B, W.heap.size ≤ B ∧ e = .returned (.slice (some ⟨B, 0, none⟩) 15 15) ∧ Recs w' 5 Rol.cells (some ⟨B, 0, none⟩) l 15 B 0 ∧ Keeps W w') := Lib.hid (fun W => (rolesP_any g.rl W).mono (by rintro e w' ⟨rfl, hs, hk⟩; exact ⟨_, Nat.le_succ _, rfl, by rw [← hl]; exact hs, hk⟩))
      have HIA : Hid (∀ q ∈ l, I64 q.code) := Lib.hid (by rw [← hl]; exact hro)
      have HL := Lib.hid hl
      have HLL := Lib.hid hll
      clear hl hll H hok hro
      go_enter Tryz.func64, Tryz.ntmps64
      go_wp2_with (first | (go_at_call 102; (refine (HRO.out _).mono ?_); rintro e3 w3 ⟨B, hB, rfl, hs3, hk3⟩; have HS3 := Lib.hid hs3; have K3 := Lib.hid ((K2.out.alloc _).trans hk3); have HB3 : Hid (w2.heap.size < B ∧ w2.heap.size < w3.heap.size) := Lib.hid (by have := hk3.size; rw [World.size_alloc] at hB this; omega); have G3 := Lib.hid ((G2.out.alloc _).keeps hk3); have HM3 := Lib.hid ((VMap.made intK w2).keeps hk3); clear hs3 hk3 hB) | (go_at_call 99; (refine (HA.out _ K1.out).mono ?_); rintro e2 w2 ⟨rfl, hk2⟩; have K2 := Lib.hid (K1.out.trans hk2); have G2 := Lib.hid (G1.out.keeps hk2); have hz2 := Nat.lt_of_lt_of_le hz1 hk2.size; clear hk2 hz1) | (go_at_call 98; (refine (HV.out _ ((Keeps.refl w).alloc _)).mono ?_); rintro e1 w1 ⟨rfl, hk1⟩; have K1 := Lib.hid (((Keeps.refl w).alloc (.cells (g.cells (.slice aoC g.chart.length capC) ev).toArray 29)).trans hk1); have G1 := Lib.hid (HGB.out.keeps hk1); have g4 := hk1.cell (p := ⟨w.heap.size, 4, none⟩) (v := .slice aoC g.chart.length capC) (by go_simp); have hz1 := World.block_lt_of_cell? _ _ g4; clear hk1) | (refine wpList_load_mid rfl 26 _ rfl w.heap.size 5 rfl g.rl.vals _ (range_sub (RowB.range (G2.out.alloc _)) 5 _ (grp_roles g _ _)) Tryz.underlying26 rfl rolesSize ?_))
      go_loopw [22] (fun vi wr => ∃ k : Nat, k ≤ 15 ∧ vi = .int .i64 k ∧ Hid (∀ j, j < k → okRole g.chart l j = true) ∧ Hid (Keeps w wr ∧ w3.grownBy wr (some w2.heap.size) ∧ VMap intK wr w2.heap.size k (seenI ((l.take k).map Rol.code)))) (fun vi _ => 15 - (intOf vi).toNat)
      case atStart => exact ⟨0, Nat.zero_le _, rfl, Lib.hid (fun j hj => absurd hj (Nat.not_lt_zero _)), Lib.hid ⟨K3.out, World.grownBy.refl _ _, HM3.out⟩⟩
      case round =>
        obtain ⟨k, hk, rfl, HN, HW⟩ := hrel
        by_cases hlt15 : k < 15
        · have hlt : k < l.length := by rw [HLL.out]; exact hlt15
          have hsr := Sl.grownR HS3.out HW.out.2.1 (by intro e; have := HB3.out.1; simp at e; omega)
          have hix := Sl.at hsr Tryz.underlying166 Tryz.sizeOf169 k hlt
          rw [HLL.out] at hix
          obtain ⟨r, hr⟩ : ∃ r, l[k] = r := ⟨_, rfl⟩
          have hsr : Recs wr 5 Rol.cells (some ⟨B, 0, none⟩) l 15 B 0 := hsr
          have c0 := hsr.cell Rol.len k hlt 0 (.string r.nm) (by rw [hr]; rfl)
          have c1 := hsr.cell Rol.len k hlt 1 (.int .i64 r.code) (by rw [hr]; rfl)
          have c2 := hsr.cell Rol.len k hlt 2 (.int .i64 r.kind) (by rw [hr]; rfl)
          have c3 := hsr.cell Rol.len k hlt 3 (.int .i64 r.basis) (by rw [hr]; rfl)
          have c4 := hsr.cell Rol.len k hlt 4 (.bool r.mapped) (by rw [hr]; rfl)
          simp only [Nat.add_zero, Nat.zero_add] at c0 c1 c2 c3 c4 hix
          have g4' := (G3.out.kept HW.out.2.1 (by intro e; simp at e; omega)).cell 4 (.slice aoC g.chart.length capC) rfl
          have hzr := World.block_lt_of_cell? _ _ c0
          have hzg := World.block_lt_of_cell? _ _ g4'
          have HI : Hid (I64 r.code) := Lib.hid (by rw [← hr]; exact HIA.out _ (List.getElem_mem ..))
          obtain ⟨a, ha⟩ : ∃ a, (findA g.chart r.code).getD Acc.zero = a := ⟨_, rfl⟩
          obtain ⟨p, hp⟩ : ∃ p, (findA g.chart r.code).isSome = p := ⟨_, rfl⟩
          obtain ⟨s, hs⟩ : ∃ s, (l.take k).any (fun q => q.code == r.code) = s := ⟨_, rfl⟩
          have HF : Hid (∀ W, Accs W aoC g.chart capC bC oC → Calls Tryz.prog 103 #[.slice aoC g.chart.length capC, .int .i64 r.code] W fun e w' => e = .returned (.tuple #[.agg #[.int .i64 a.code, .int .i64 a.kind, .int .i64 a.basis, .int .i64 a.parent], .bool p]) ∧ Keeps W w') := Lib.hid (fun W h => by
            have := find_any g.chart r.code aoC capC bC oC W h
            unfold AccO at this
            rw [ha, hp] at this
            exact this)
          have HR := Lib.hid hr
          have HA1 := Lib.hid ha
          have HP1 := Lib.hid hp
          have HSN := Lib.hid hs
          clear hr ha hp hs hsr
          cases p with
          | false =>
            have HBD := Lib.hid (accB_3 (g := g) (k := k) (by rw [HL.out]; exact hlt) (by rw [HL.out, okRole_at hlt, HR.out, HA1.out, HP1.out]; simp [HSN.out, true]))
            (go_wp2_with (go_at_call 103; (refine (HF.out _ (HC.out.keeps (HW.out.1.alloc _))).mono ?_); rintro e4 w4 ⟨rfl, hk4⟩; have y1 := hk4.cell (p := ⟨wr.heap.size, 1, none⟩) (v := .int .i64 r.code) (by go_simp); have y2 := hk4.cell (p := ⟨wr.heap.size, 2, none⟩) (v := .int .i64 r.kind) (by go_simp); have y3 := hk4.cell (p := ⟨wr.heap.size, 3, none⟩) (v := .int .i64 r.basis) (by go_simp); have hz4 := World.block_lt_of_cell? _ _ y1; have HM4 := Lib.hid ((HW.out.2.2.alloc _).keeps hk4); have hlk : (Instr.lookup 140 (.map (some w2.heap.size)) (.int .i64 r.code) false).run Tryz.prog (w4.alloc (.cells #[.int .i64 a.code, .int .i64 a.kind, .int .i64 a.basis, .int .i64 a.parent] 68)) = .ok (.bool (s)) (w4.alloc (.cells #[.int .i64 a.code, .int .i64 a.kind, .int .i64 a.basis, .int .i64 a.parent] 68)) := (by have := (HM4.out.alloc (.cells #[.int .i64 a.code, .int .i64 a.kind, .int .i64 a.basis, .int .i64 a.parent] 68)).look Tryz.underlying140 (fun w => Tryz.zeroValue4 w) (a := r.code) HI.out _ rfl; rw [seenI_get', seenR, HSN.out] at this; exact this); have K4 := Lib.hid hk4; clear hk4); go_ret; rw [HBD.out]; exact ⟨rfl, ((HW.out.1.alloc _).trans K4.out).alloc _⟩)
          | true =>
            cases s with
            | true =>
              have HBD := Lib.hid (accB_3 (g := g) (k := k) (by rw [HL.out]; exact hlt) (by rw [HL.out, okRole_at hlt, HR.out, HA1.out, HP1.out]; simp [HSN.out, true]))
              (go_wp2_with (go_at_call 103; (refine (HF.out _ (HC.out.keeps (HW.out.1.alloc _))).mono ?_); rintro e4 w4 ⟨rfl, hk4⟩; have y1 := hk4.cell (p := ⟨wr.heap.size, 1, none⟩) (v := .int .i64 r.code) (by go_simp); have y2 := hk4.cell (p := ⟨wr.heap.size, 2, none⟩) (v := .int .i64 r.kind) (by go_simp); have y3 := hk4.cell (p := ⟨wr.heap.size, 3, none⟩) (v := .int .i64 r.basis) (by go_simp); have hz4 := World.block_lt_of_cell? _ _ y1; have HM4 := Lib.hid ((HW.out.2.2.alloc _).keeps hk4); have hlk : (Instr.lookup 140 (.map (some w2.heap.size)) (.int .i64 r.code) false).run Tryz.prog (w4.alloc (.cells #[.int .i64 a.code, .int .i64 a.kind, .int .i64 a.basis, .int .i64 a.parent] 68)) = .ok (.bool (true)) (w4.alloc (.cells #[.int .i64 a.code, .int .i64 a.kind, .int .i64 a.basis, .int .i64 a.parent] 68)) := (by have := (HM4.out.alloc (.cells #[.int .i64 a.code, .int .i64 a.kind, .int .i64 a.basis, .int .i64 a.parent] 68)).look Tryz.underlying140 (fun w => Tryz.zeroValue4 w) (a := r.code) HI.out _ rfl; rw [seenI_get', seenR, HSN.out] at this; exact this); have K4 := Lib.hid hk4; clear hk4); go_ret; rw [HBD.out]; exact ⟨rfl, ((HW.out.1.alloc _).trans K4.out).alloc _⟩)
            | false =>
              cases hk1 : (a.kind == r.kind) with
              | false =>
                have HBD := Lib.hid (accB_3 (g := g) (k := k) (by rw [HL.out]; exact hlt) (by rw [HL.out, okRole_at hlt, HR.out, HA1.out, HP1.out]; simp [HSN.out, hk1]))
                have e1 : (a.kind != r.kind) = true := by simp [bne, hk1]
                clear hk1
                (go_wp2_with (go_at_call 103; (refine (HF.out _ (HC.out.keeps (HW.out.1.alloc _))).mono ?_); rintro e4 w4 ⟨rfl, hk4⟩; have y1 := hk4.cell (p := ⟨wr.heap.size, 1, none⟩) (v := .int .i64 r.code) (by go_simp); have y2 := hk4.cell (p := ⟨wr.heap.size, 2, none⟩) (v := .int .i64 r.kind) (by go_simp); have y3 := hk4.cell (p := ⟨wr.heap.size, 3, none⟩) (v := .int .i64 r.basis) (by go_simp); have hz4 := World.block_lt_of_cell? _ _ y1; have HM4 := Lib.hid ((HW.out.2.2.alloc _).keeps hk4); have hlk : (Instr.lookup 140 (.map (some w2.heap.size)) (.int .i64 r.code) false).run Tryz.prog (w4.alloc (.cells #[.int .i64 a.code, .int .i64 a.kind, .int .i64 a.basis, .int .i64 a.parent] 68)) = .ok (.bool (false)) (w4.alloc (.cells #[.int .i64 a.code, .int .i64 a.kind, .int .i64 a.basis, .int .i64 a.parent] 68)) := (by have := (HM4.out.alloc (.cells #[.int .i64 a.code, .int .i64 a.kind, .int .i64 a.basis, .int .i64 a.parent] 68)).look Tryz.underlying140 (fun w => Tryz.zeroValue4 w) (a := r.code) HI.out _ rfl; rw [seenI_get', seenR, HSN.out] at this; exact this); have K4 := Lib.hid hk4; clear hk4); go_ret; rw [HBD.out]; exact ⟨rfl, ((HW.out.1.alloc _).trans K4.out).alloc _⟩)
              | true =>
                have e1 : (a.kind != r.kind) = false := by simp [bne, hk1]
                cases hk2 : (a.basis == r.basis) with
                | false =>
                  have HBD := Lib.hid (accB_3 (g := g) (k := k) (by rw [HL.out]; exact hlt) (by rw [HL.out, okRole_at hlt, HR.out, HA1.out, HP1.out]; simp [HSN.out, hk2]))
                  have e2 : (a.basis != r.basis) = true := by simp [bne, hk2]
                  clear hk1 hk2
                  (go_wp2_with (go_at_call 103; (refine (HF.out _ (HC.out.keeps (HW.out.1.alloc _))).mono ?_); rintro e4 w4 ⟨rfl, hk4⟩; have y1 := hk4.cell (p := ⟨wr.heap.size, 1, none⟩) (v := .int .i64 r.code) (by go_simp); have y2 := hk4.cell (p := ⟨wr.heap.size, 2, none⟩) (v := .int .i64 r.kind) (by go_simp); have y3 := hk4.cell (p := ⟨wr.heap.size, 3, none⟩) (v := .int .i64 r.basis) (by go_simp); have hz4 := World.block_lt_of_cell? _ _ y1; have HM4 := Lib.hid ((HW.out.2.2.alloc _).keeps hk4); have hlk : (Instr.lookup 140 (.map (some w2.heap.size)) (.int .i64 r.code) false).run Tryz.prog (w4.alloc (.cells #[.int .i64 a.code, .int .i64 a.kind, .int .i64 a.basis, .int .i64 a.parent] 68)) = .ok (.bool (false)) (w4.alloc (.cells #[.int .i64 a.code, .int .i64 a.kind, .int .i64 a.basis, .int .i64 a.parent] 68)) := (by have := (HM4.out.alloc (.cells #[.int .i64 a.code, .int .i64 a.kind, .int .i64 a.basis, .int .i64 a.parent] 68)).look Tryz.underlying140 (fun w => Tryz.zeroValue4 w) (a := r.code) HI.out _ rfl; rw [seenI_get', seenR, HSN.out] at this; exact this); have K4 := Lib.hid hk4; clear hk4); go_ret; rw [HBD.out]; exact ⟨rfl, ((HW.out.1.alloc _).trans K4.out).alloc _⟩)
                | true =>
                  have e2 : (a.basis != r.basis) = false := by simp [bne, hk2]
                  have HGD : Hid (okRole g.chart l k = true) := Lib.hid (by rw [okRole_at hlt, HR.out, HA1.out, HP1.out, HSN.out, hk1, hk2]; rfl)
                  have HTK : Hid (l.take (k + 1) = l.take k ++ [r]) := Lib.hid (by rw [take_snoc _ _ hlt, HR.out])
                  clear hk1 hk2
                  go_wp2_with (first | (go_at_call 103; (refine (HF.out _ (HC.out.keeps (HW.out.1.alloc _))).mono ?_); rintro e4 w4 ⟨rfl, hk4⟩; have y1 := hk4.cell (p := ⟨wr.heap.size, 1, none⟩) (v := .int .i64 r.code) (by go_simp); have y2 := hk4.cell (p := ⟨wr.heap.size, 2, none⟩) (v := .int .i64 r.kind) (by go_simp); have y3 := hk4.cell (p := ⟨wr.heap.size, 3, none⟩) (v := .int .i64 r.basis) (by go_simp); have hz4 := World.block_lt_of_cell? _ _ y1; have HM4 := Lib.hid ((HW.out.2.2.alloc _).keeps hk4); have hlk : (Instr.lookup 140 (.map (some w2.heap.size)) (.int .i64 r.code) false).run Tryz.prog (w4.alloc (.cells #[.int .i64 a.code, .int .i64 a.kind, .int .i64 a.basis, .int .i64 a.parent] 68)) = .ok (.bool (false)) (w4.alloc (.cells #[.int .i64 a.code, .int .i64 a.kind, .int .i64 a.basis, .int .i64 a.parent] 68)) := (by have := (HM4.out.alloc (.cells #[.int .i64 a.code, .int .i64 a.kind, .int .i64 a.basis, .int .i64 a.parent] 68)).look Tryz.underlying140 (fun w => Tryz.zeroValue4 w) (a := r.code) HI.out _ rfl; rw [seenI_get', seenR, HSN.out] at this; exact this); have K4 := Lib.hid hk4; clear hk4) | (refine wpList_vstore (K := intK) rfl _ _ _ 140 rfl Tryz.underlying140 w2.heap.size k rfl (HM4.out.alloc _) (by unfold maxLen; omega) r.code HI.out rfl (.bool true) rfl (seenI ((l.take (k + 1)).map Rol.code)) (by rw [HTK.out, List.map_append]; exact (seenI_snoc _ _).1) (fun d _ hd => by rw [HTK.out, List.map_append]; exact (seenI_snoc _ _).2 d hd) ?_; intro w5 hm5 hg5; have HX : Hid (Keeps w w5 ∧ w3.grownBy w5 (some w2.heap.size) ∧ VMap intK w5 w2.heap.size (k + 1) (seenI ((l.take (k + 1)).map Rol.code))) := Lib.hid ⟨Below.grown (((HW.out.1.alloc _).trans K4.out).alloc _) hg5 (((HW.out.1.alloc _).trans K4.out).alloc _).size (fun j hj => by cases hj; exact K2.out.size), (((HW.out.2.1.trans (World.grownBy_alloc _ _ _)).trans (keeps_grown K4.out _)).trans (World.grownBy_alloc _ _ _)).trans hg5, hm5⟩; clear hm5 hg5))
                  go_roundw
                  case rel => exact ⟨k + 1, by omega, by go_num, Lib.hid (fun j hj => by by_cases h : j < k; (exact HN.out j h); (rw [show j = k from by omega]; exact HGD.out)), HX⟩
                  case measure => simp [intOf]; omega
        · have HGD := Lib.hid (accB_4 (g := g) H1.out H2.out (fun j hj => by rw [HL.out] at hj ⊢; rw [HLL.out] at hj; exact HN.out j (by omega)))
          go_wp2_with fail
          go_ret
          rw [HGD.out]
          exact ⟨rfl, HW.out.1⟩
end Go.Proofs.YtoaidbhiciaeaaaGreat

end
