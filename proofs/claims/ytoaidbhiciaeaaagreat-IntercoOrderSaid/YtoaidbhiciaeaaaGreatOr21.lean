/- Walks and plain facts that the claim rests on (PFindR, InW, MchP, ConW, MchE). No condition. -/
import Derived.Test.YtoaidbhiciaeaaaGreatOr20
import Derived.Test.YtoaidbhiciaeaaaGreatOr18
import Derived.Test.YtoaidbhiciaeaaaGreatOr07
import Derived.Deep.QuietTactic
import Derived.BigQuiet
import Derived.Lib.AppendZerosOnto
import Derived.WalkKit
import Derived.Lib.Walk
section
namespace Go.Proofs.YtoaidbhiciaeaaaGreat
open Go.RowKit
set_option linter.unusedSimpArgs false
set_option linter.unusedVariables false
deriving instance DecidableEq for Rf
def memB (L : List Rf) (r : Rf) : Bool := decide (r ∈ L)
theorem memB_snoc (L : List Rf) (r : Rf) : setM (memB (L ++ [r])) r = some (.bool true) ∧ ∀ d, d ≠ r → setM (memB (L ++ [r])) d = setM (memB L) d := by
  refine ⟨?_, fun d hd => ?_⟩
  · unfold setM memB
    rw [if_pos (by simp)]
  · unfold setM memB
    have : (d ∈ L ++ [r]) ↔ d ∈ L := by simp [hd]
    simp only [this]
theorem eqlRef (x y : Rf) (w : World) : (binOp .eql 51 (.agg #[.int .i64 x.e, .int .i64 x.l]) (.agg #[.int .i64 y.e, .int .i64 y.l])).run Tryz.prog w = .ok (.bool (decide (x = y))) w := by
  obtain ⟨a, b⟩ := x
  obtain ⟨c, d⟩ := y
  by_cases h1 : a = c
  · subst h1
    by_cases h2 : b = d
    · subst h2
      simp only [decide_true]
      go_simp
    · have h3 : (b == d) = false := by simpa using h2
      have h4 : decide ((⟨a, b⟩ : Rf) = ⟨a, d⟩) = false := by simp [h2]
      rw [h4]
      go_simp
  · have h3 : (a == c) = false := by simpa using h1
    have h4 : decide ((⟨a, b⟩ : Rf) = ⟨c, d⟩) = false := by simp [h1]
    rw [h4]
    go_simp
set_option maxRecDepth 100000 in
set_option maxHeartbeats 1000000 in
theorem in_any (l : List Rf) (r : Rf) (ao : Option Addr) (cap b o : Nat) (w : World) (H : Recs w 2 Rf.cells ao l cap b o) :
    Calls Tryz.prog 14 #[.slice ao l.length cap, .agg #[.int .i64 r.e, .int .i64 r.l]] w fun e w' => e = .returned (.bool (memB l r)) ∧ Keeps w w' := by
  have hcap := Sl.cap H
  have hle := Sl.le H
  have HH := Lib.hid H
  clear H
  have b0 : (w.alloc (.cells #[.int .i64 r.e, .int .i64 r.l] 51)).cell? ⟨w.heap.size, 0, none⟩ = some (.int .i64 r.e) := by go_simp
  have b1 : (w.alloc (.cells #[.int .i64 r.e, .int .i64 r.l] 51)).cell? ⟨w.heap.size, 1, none⟩ = some (.int .i64 r.l) := by go_simp
  have hk0 : Keeps w (w.alloc (.cells #[.int .i64 r.e, .int .i64 r.l] 51)) := (Keeps.refl w).alloc _
  obtain ⟨W1, hW1⟩ : ∃ W1, w.alloc (.cells #[.int .i64 r.e, .int .i64 r.l] 51) = W1 := ⟨_, rfl⟩
  rw [hW1] at b0 b1 hk0
  have HK0 := Lib.hid hk0
  clear hk0
  go_enter Tryz.func14, Tryz.ntmps14
  go_wp2_with fail
  try rw [hW1]
  clear hW1
  go_loopw [5] (fun vi wr => ∃ k : Nat, k ≤ l.length ∧ vi = .int .i64 k ∧ Hid (Keeps W1 wr) ∧ Hid (∀ q ∈ l.take k, q ≠ r)) (fun vi _ => l.length - (intOf vi).toNat)
  case atStart => exact ⟨0, Nat.zero_le _, rfl, Lib.hid (Keeps.refl W1), Lib.hid (by simp)⟩
  case round =>
    obtain ⟨k, hk, rfl, HW, HZ⟩ := hrel
    by_cases hlt : k < l.length
    · have hr := HH.out.keeps (HK0.out.trans HW.out)
      have hix := Sl.at hr Tryz.underlying46 Tryz.sizeOf51 k hlt
      obtain ⟨q, hq⟩ : ∃ q, l[k] = q := ⟨_, rfl⟩
      have c0 := hr.cell Rf.len k hlt 0 (.int .i64 q.e) (by rw [hq]; rfl)
      have c1 := hr.cell Rf.len k hlt 1 (.int .i64 q.l) (by rw [hq]; rfl)
      rw [Nat.add_zero] at c0
      have d0 := HW.out.cell b0
      have d1 := HW.out.cell b1
      have heq : ∀ w, (binOp .eql 51 (.agg #[.int .i64 q.e, .int .i64 q.l]) (.agg #[.int .i64 r.e, .int .i64 r.l])).run Tryz.prog w = .ok (.bool (decide (q = r))) w := eqlRef q r
      have HQ := Lib.hid hq
      have HM := Lib.hid (show q ∈ l by rw [← hq]; exact List.getElem_mem ..)
      clear hr hq
      by_cases hqr : q = r
      · have HR : Hid (memB l r = true) := Lib.hid (by unfold memB; rw [← hqr]; exact decide_eq_true HM.out)
        rw [decide_eq_true hqr] at heq
        clear hqr
        go_wp2_with fail
        go_quiet (fail)
        go_wp2_with fail
        go_ret
        exact ⟨by rw [HR.out]; rfl, HK0.out.trans (HW.out.drewN _)⟩
      · have HR := Lib.hid hqr
        rw [decide_eq_false hqr] at heq
        clear hqr
        go_wp2_with fail
        go_quiet (fail)
        go_wp2_with fail
        go_roundw
        case rel => exact ⟨k + 1, by omega, by go_num, Lib.hid (HW.out.drewN _), Lib.hid (by
          rw [take_snoc _ k hlt, HQ.out]
          intro u hu
          rcases List.mem_append.1 hu with h | h
          · exact HZ.out u h
          · rw [List.mem_singleton.1 h]; exact HR.out)⟩
        case measure => simp [intOf]; omega
    · obtain rfl : k = l.length := by omega
      have HR : Hid (memB l r = false) := Lib.hid (by
        have h := HZ.out
        rw [List.take_length] at h
        exact decide_eq_false (fun hm => h r hm rfl))
      go_wp2_with fail
      go_ret
      exact ⟨by rw [HR.out]; rfl, HK0.out.trans HW.out⟩
end Go.Proofs.YtoaidbhiciaeaaaGreat

end
section
namespace Go.Proofs.YtoaidbhiciaeaaaGreat
open Go.RowKit
set_option linter.unusedSimpArgs false
set_option linter.unusedVariables false
theorem booksSize : (Tryz.prog.info? 36).map (·.size) = some 27 := by kernel_rfl
def fpos (es : List JV) (i : Int) : Nat := es.findIdx (fun e => e.x.id == i)
theorem fpos_fst (es : List JV) (i : Int) : FstE es i (fpos es i) := by
  unfold fpos
  refine ⟨fun e he => ?_, List.findIdx_le_length, fun h => ?_⟩
  · obtain ⟨j, hj, rfl⟩ := List.mem_take_iff_getElem.1 he
    have := List.not_of_lt_findIdx (p := fun e : JV => e.x.id == i) (xs := es) (i := j) (by omega)
    simpa using this
  · have := List.findIdx_getElem (p := fun e : JV => e.x.id == i) (xs := es) (w := h)
    simpa using this
def ep (es : List JV) (r : Rf) : Option (Int × Int) := match es[fpos es r.e]? with
  | none => none
  | some y => (lineAt y.x.lines r.l).map (fun n => (y.x.ent, n.ptn))
theorem ep_find (es : List JV) (r : Rf) : (findS es (fpos es r.e) r.l).2.2 = (ep es r).isSome ∧ (findS es (fpos es r.e) r.l).1.ent = ((ep es r).getD (0, 0)).1 ∧ (findS es (fpos es r.e) r.l).2.1.ptn = ((ep es r).getD (0, 0)).2 := by
  unfold findS ep
  cases es[fpos es r.e]? with
  | none => exact ⟨rfl, rfl, rfl⟩
  | some y =>
    simp only
    cases lineAt y.x.lines r.l with
    | none => exact ⟨rfl, rfl, rfl⟩
    | some n => exact ⟨rfl, rfl, rfl⟩
def sideE (es : List JV) (L : List Rf) : Option (Int × Int) := match L with
  | [] => some (0, 0)
  | r :: _ => if L.all (fun q => decide (ep es q = ep es r)) then ep es r else none
theorem sideE_cons (es : List JV) (r : Rf) (t : List Rf) : sideE es (r :: t) = if (r :: t).all (fun q => decide (ep es q = ep es r)) then ep es r else none := rfl
def entP (es : List JV) (L : List Rf) : Int × Int × Bool := match sideE es L with
  | none => (0, 0, false)
  | some q => (q.1, q.2, decide (1 ≤ L.length ∧ L.length ≤ 12))
theorem sideE_bad1 {es : List JV} {L : List Rf} {k : Nat} (hk : k < L.length) (h : ep es L[k] = none) : sideE es L = none := by
  cases L with
  | nil => simp at hk
  | cons r t =>
    rw [sideE_cons]
    by_cases ha : (r :: t).all (fun q => decide (ep es q = ep es r)) = true
    · rw [if_pos ha]
      rw [List.all_eq_true] at ha
      have := ha _ (List.getElem_mem hk)
      rw [decide_eq_true_eq] at this
      rw [← this, h]
    · rw [if_neg ha]
theorem sideE_bad2 {es : List JV} {L : List Rf} {k : Nat} (hk : k < L.length) {x p : Int × Int} (h0 : ep es (L[0]'(by omega)) = some x) (h : ep es L[k] = some p) (hne : p ≠ x) : sideE es L = none := by
  cases L with
  | nil => simp at hk
  | cons r t =>
    rw [sideE_cons, if_neg]
    rw [List.all_eq_true]
    intro ha
    have := ha _ (List.getElem_mem hk)
    rw [decide_eq_true_eq, h] at this
    rw [List.getElem_cons_zero] at h0
    rw [h0] at this
    exact hne (Option.some.inj this)
theorem sideE_good {es : List JV} {L : List Rf} {x : Int × Int} (h : ∀ j (hj : j < L.length), ep es L[j] = some x) (h0 : L.length = 0 → x = (0, 0)) : sideE es L = some x := by
  cases L with
  | nil => unfold sideE; rw [h0 rfl]
  | cons r t =>
    have hr : ep es r = some x := h 0 (by simp)
    rw [sideE_cons, if_pos, hr]
    rw [List.all_eq_true]
    intro q hq
    obtain ⟨j, hj, rfl⟩ := List.getElem_of_mem hq
    rw [decide_eq_true_eq, h j hj, hr]
theorem entP_bad {es : List JV} {L : List Rf} (h : sideE es L = none) : entP es L = (0, 0, false) := by unfold entP; rw [h]
theorem entP_good {es : List JV} {L : List Rf} {x : Int × Int} (h : sideE es L = some x) : entP es L = (x.1, x.2, decide (1 ≤ L.length ∧ L.length ≤ 12)) := by unfold entP; rw [h]
def pairOk (es : List JV) (m : Mt) : Bool := (entP es m.left).2.2 && ((entP es m.right).2.2 && ((entP es m.left).1 != (entP es m.right).1 && ((entP es m.left).2.1 == (entP es m.right).1 && ((entP es m.right).2.1 == (entP es m.left).1 && (decide (1 ≤ m.state) && decide (m.state ≤ 5))))))
def sidesR (es : List JV) (m : Mt) : Int × Int × Int := if pairOk es m = true ∧ (m.left ++ m.right).Nodup then ((entP es m.left).1, (entP es m.right).1, 0) else (0, 0, 1)
theorem sidesR_bad1 {es : List JV} {m : Mt} (h : pairOk es m = false) : sidesR es m = (0, 0, 1) := if_neg (by rw [h]; simp)
theorem sidesR_bad2 {es : List JV} {m : Mt} (h : ¬ (m.left ++ m.right).Nodup) : sidesR es m = (0, 0, 1) := if_neg (fun c => h c.2)
theorem sidesR_good {es : List JV} {m : Mt} (h1 : pairOk es m = true) (h : (m.left ++ m.right).Nodup) : sidesR es m = ((entP es m.left).1, (entP es m.right).1, 0) := if_pos ⟨h1, h⟩
theorem nodup_take_bad {α : Type} {l : List α} {k : Nat} (hk : k < l.length) (h : l[k] ∈ l.take k) : ¬ l.Nodup := fun hn => by
  obtain ⟨j, hj, he⟩ := List.mem_take_iff_getElem.1 h
  exact List.pairwise_iff_getElem.1 hn j k (by omega) hk (by omega) he
theorem nodup_take {α : Type} {l : List α} (h : ∀ k (hk : k < l.length), l[k] ∉ l.take k) : l.Nodup :=
  List.pairwise_iff_getElem.2 fun i j hi hj hl he => h j hj (List.mem_take_iff_getElem.2 ⟨i, by omega, he⟩)
def refsOf (ms : List MV) : List Rf := ms.flatMap (fun m => m.x.left ++ m.x.right)
def okM (es : List JV) (ms : List MV) (k : Nat) : Bool := match ms[k]? with
  | none => true
  | some m => decide (1 ≤ m.x.id) && (!((ms.take k).any (fun q => q.x.id == m.x.id)) && ((sidesR es m.x).2.2 == 0 && (m.x.left ++ m.x.right).all (fun r => !memB (refsOf (ms.take k)) r)))
def allMB (es : List JV) (ms : List MV) : Bool := (List.range ms.length).all (okM es ms) && decide (ms.length ≤ 300)
theorem okM_at {es : List JV} {ms : List MV} {k : Nat} (hk : k < ms.length) : okM es ms k = (decide (1 ≤ ms[k].x.id) && (!((ms.take k).any (fun q => q.x.id == ms[k].x.id)) && ((sidesR es ms[k].x).2.2 == 0 && (ms[k].x.left ++ ms[k].x.right).all (fun r => !memB (refsOf (ms.take k)) r)))) := by
  unfold okM
  rw [List.getElem?_eq_getElem hk]
theorem allMB_bad {es : List JV} {ms : List MV} {k : Nat} (hk : k < ms.length) (h : okM es ms k = false) : allMB es ms = false := by unfold allMB; rw [allr_false hk h]; rfl
theorem allMB_good {es : List JV} {ms : List MV} (h : ∀ k, k < ms.length → okM es ms k = true) : allMB es ms = decide (ms.length ≤ 300) := by unfold allMB; rw [allr_true h]; rfl
def EpOut (w : World) (q : Option (Int × Int)) (e : Ending) (w' : World) : Prop := ∃ (c0 c2 c3 c4 : Int) (s : ByteArray) (ao : Option Addr) (n cap : Nat) (l0 l1 : Int), e = .returned (.tuple #[.agg #[.int .i64 c0, .int .i64 (q.getD (0, 0)).1, .int .i64 c2, .int .i64 c3, .int .i64 c4, .string s, .slice ao n cap], .agg #[.int .i64 l0, .int .i64 l1, .int .i64 (q.getD (0, 0)).2], .bool q.isSome]) ∧ Keeps w w'
theorem epP_any (bv : List Value) (es : List JV) (ms : List MV) (r : Rf) (w : World) (H : Bks w bv es ms) (hm : ∀ e ∈ es, e.x.lines.length ≤ 8) :
    Calls Tryz.prog 151 #[.agg bv.toArray, .agg #[.int .i64 r.e, .int .i64 r.l]] w (EpOut w (ep es r)) :=
  (pfind_any bv es ms r.e r.l _ (fpos_fst es r.e) w H hm).mono (by
    rintro e w' ⟨ao, cap, b, o, rfl, _, hk⟩
    obtain ⟨h1, h2, h3⟩ := ep_find es r
    rw [h1]
    refine ⟨(findS es (fpos es r.e) r.l).1.id, (findS es (fpos es r.e) r.l).1.date, (findS es (fpos es r.e) r.l).1.kind, (findS es (fpos es r.e) r.l).1.of_, (findS es (fpos es r.e) r.l).1.text, ao, (findS es (fpos es r.e) r.l).1.lines.length, cap, (findS es (fpos es r.e) r.l).2.1.acc, (findS es (fpos es r.e) r.l).2.1.amt, ?_, hk⟩
    rw [← h2, ← h3]
    rfl)
end Go.Proofs.YtoaidbhiciaeaaaGreat

end
section
namespace Go.Proofs.YtoaidbhiciaeaaaGreat
open Go.RowKit Go.Lib
set_option linter.unusedSimpArgs false
set_option linter.unusedVariables false
theorem elemRf : ElemOf Tryz.prog 46 51 (.agg #[.int .i64 0, .int .i64 0]) 2 16 := ⟨Tryz.underlying46, by kernel_rfl, rfl, by omega⟩
theorem ones_rf (l : List Rf) : ∀ u ∈ l.flatMap Rf.cells, u.oneCell' = true := fun u hu => by
  obtain ⟨a, _, hu⟩ := List.mem_flatMap.1 hu
  simp [Rf.cells] at hu
  rcases hu with rfl | rfl <;> rfl
theorem infoRf : ∃ i : TypeInfo, Tryz.prog.info? 51 = some i ∧ i.zero = some (.agg #[.int .i64 0, .int .i64 0]) ∧ i.size = 2 ∧ i.bytes = 16 := by
  have h : (Tryz.prog.info? 51).map (fun i => (i.zero, i.size, i.bytes)) = some (some (.agg #[.int .i64 0, .int .i64 0]), 2, 16) := by kernel_rfl
  cases hi : Tryz.prog.info? 51 with
  | none => rw [hi] at h; cases h
  | some i =>
    rw [hi] at h
    simp only [Option.map_some, Option.some.injEq, Prod.mk.injEq] at h
    exact ⟨i, rfl, h.1, h.2.1, h.2.2⟩
set_option maxRecDepth 100000 in
set_option maxHeartbeats 4000000 in
theorem growR_any (n : Nat) (hn : n ≤ 1000) (w : World) :
    Calls Tryz.prog 112 #[.slice none 0 0, .int .i64 n] w fun e w' => ∃ v, e = .returned v ∧ w'.ownsRow w.heap.size 51 2 v 0 [] ∧ Keeps w w' := by
  by_cases h0 : n = 0
  · subst h0
    go_enter Tryz.func112, Tryz.ntmps112
    go_wp2_with fail
    go_ret
    exact ⟨_, rfl, World.ownsRow_nil _ _ _ _, Keeps.refl w⟩
  · obtain ⟨i, hi, hz, hs, hb⟩ := infoRf
    have hold : (Builtin.firstCells i.size 0 (.slice none 0 0)).run Tryz.prog w.drew = .ok (([] : List Value).toArray) w.drew := run_firstCells_none w.drew i.size 0 0 0
    have hrz : ∀ ty, (Builtin.append_ #[46, 3] ty #[.slice none 0 0, .int .i64 (n : Int)]).run Tryz.prog w =
        .ok (.slice (some ⟨w.heap.size, 0, none⟩) n (grownCap w n 0 51)) (w.drew.alloc (.cells ((([] : List Value).toArray) ++ Builtin.zeroCells (Value.agg #[.int .i64 0, .int .i64 0]).cells n ++ Builtin.zeroCells (Value.agg #[.int .i64 0, .int .i64 0]).cells (grownCap w n 0 51 - n)) 51)) := fun ty => by
      have h := Lib.run_append_grow_zeros w 46 3 ty 51 i _ .i64 .i64 Tryz.underlying46 Tryz.underlying3 hi hz none 0 0 [] hold n (by omega) (by omega) (by omega) (by omega) (by rw [hb]; omega) (growslice_fits (by omega) (by rw [hb]; omega))
      rw [Nat.zero_add] at h
      exact h
    have hGn : n ≤ grownCap w n 0 51 := grownCap_ge w _ _ _
    have hG63 := grownCap_le_maxLen w n 0 51 (by unfold maxLen; omega)
    obtain ⟨G, hG⟩ : ∃ G, grownCap w n 0 51 = G := ⟨_, rfl⟩
    rw [hG] at hrz hGn hG63
    obtain ⟨C, hC⟩ : ∃ C, (([] : List Value).toArray) ++ Builtin.zeroCells (Value.agg #[.int .i64 0, .int .i64 0]).cells n ++ Builtin.zeroCells (Value.agg #[.int .i64 0, .int .i64 0]).cells (G - n) = C := ⟨_, rfl⟩
    have hCs : C.size = G * 2 := by
      rw [← hC]
      simp [Builtin.zeroCells, Value.cells]
      omega
    rw [hC] at hrz
    have HG63 := Lib.hid hG63
    have HCS := Lib.hid hCs
    unfold maxLen at hG63
    clear hold hG hC hCs
    have h2 : ¬ ((n : Int) < 0) := by omega
    go_enter Tryz.func112, Tryz.ntmps112
    go_wp2_with (at_builtin; refine Lib.wpList_append_run _ rfl _ _ _ _ rfl _ _ rfl rfl _ _ (hrz _) ?_)
    all_goals (go_ret; exact ⟨_, rfl, ⟨rfl, .inr ⟨w.heap.size, G, C, rfl, Nat.le_refl _, World.alloc_heap_new w.drew _, Nat.zero_le _, HG63.out, HCS.out, by simp⟩⟩, (Keeps.refl w).drew.alloc _⟩)
set_option maxRecDepth 100000 in
set_option maxHeartbeats 4000000 in
theorem concat_any (L R : List Rf) (aoL : Option Addr) (capL bL oL : Nat) (aoR : Option Addr) (capR bR oR : Nat) (ao : Option Addr) (cap b o : Nat) (w : World) (HL : Recs w 2 Rf.cells aoL L capL bL oL) (HR : Recs w 2 Rf.cells aoR R capR bR oR)
    (HS : Sl w 1 ao 2 cap b o [.slice aoL L.length capL, .slice aoR R.length capR]) (h1 : L.length ≤ 400) (h2 : R.length ≤ 400) :
    Calls Tryz.prog 70 #[.slice ao 2 cap] w fun e w' => ∃ v, e = .returned v ∧ w'.ownsRow w.heap.size 51 2 v (L ++ R).length ((L ++ R).flatMap Rf.cells) ∧ Keeps w w' := by
  have hi0 := HS.at1 Tryz.underlying177 Tryz.sizeOf46 0 (by omega)
  have hi1 := HS.at1 Tryz.underlying177 Tryz.sizeOf46 1 (by omega)
  have c0 := Sl.cell HS 0 _ rfl
  have c1 := Sl.cell HS 1 _ rfl
  simp only [Nat.add_zero, Int.natCast_zero, Int.natCast_one] at hi0 hi1 c0
  have hcap := Sl.cap HS
  have HHL := Lib.hid HL
  have HHR := Lib.hid HR
  have HGW : Hid (∀ W, Calls Tryz.prog 112 #[.slice none 0 0, .int .i64 ((L.length : Int) + (R.length : Int))] W fun e w' => ∃ v, e = .returned v ∧ w'.ownsRow W.heap.size 51 2 v 0 [] ∧ Keeps W w') := Lib.hid (fun W => by have := growR_any (L.length + R.length) (by omega) W; rw [Int.natCast_add] at this; exact this)
  have HO1 := Lib.hid (ones_rf L)
  have HO2 := Lib.hid (ones_rf R)
  clear HL HR HS
  go_enter Tryz.func70, Tryz.ntmps70
  go_wp2_with fail
  go_loop [3, 11] (fun s i => (i = .int .i64 0 ∧ s = .int .i64 0) ∨ (i = .int .i64 1 ∧ s = .int .i64 (L.length : Int)) ∨ (i = .int .i64 2 ∧ s = .int .i64 ((L.length : Int) + (R.length : Int)))) (fun _ i => 2 - (intOf i).toNat)
  case atStart => exact .inl ⟨rfl, rfl⟩
  case round =>
    rcases hrel with ⟨rfl, rfl⟩ | ⟨rfl, rfl⟩ | ⟨rfl, rfl⟩
    · go_wp2_with fail
      go_round
      case rel => exact .inr (.inl ⟨rfl, rfl⟩)
      case measure => simp [intOf]
    · go_wp2_with fail
      go_round
      case rel => exact .inr (.inr ⟨rfl, rfl⟩)
      case measure => simp [intOf]
    · go_wp2_with (go_at_call 112; (refine (HGW.out _).mono ?_); rintro e w1 ⟨v1, rfl, ho1, hk1⟩; have HX1 := Lib.hid (And.intro ho1 hk1); clear ho1 hk1)
      go_loopw [6, 27] (fun v i wr => Hid (Keeps w wr) ∧ ((i = .int .i64 0 ∧ Hid (wr.ownsRow w.heap.size 51 2 v 0 [])) ∨ (i = .int .i64 1 ∧ Hid (wr.ownsRow w.heap.size 51 2 v L.length (L.flatMap Rf.cells))) ∨ (i = .int .i64 2 ∧ Hid (wr.ownsRow w.heap.size 51 2 v (L.length + R.length) (L.flatMap Rf.cells ++ R.flatMap Rf.cells))))) (fun _ i _ => 2 - (intOf i).toNat)
      case atStart => exact ⟨Lib.hid HX1.out.2, .inl ⟨rfl, Lib.hid HX1.out.1⟩⟩
      case round =>
        obtain ⟨HK, hrel⟩ := hrel
        have d0 := HK.out.cell c0
        have d1 := HK.out.cell c1
        have hzr := World.block_lt_of_cell? _ _ d0
        simp only at hzr
        rcases hrel with ⟨rfl, HO⟩ | ⟨rfl, HO⟩ | ⟨rfl, HO⟩
        · go_wp2_with (at_builtin; (refine wpList_app_all elemRf rfl (.tmp 31) (.tmp 32) rfl w _ 0 [] rfl w.heap.size HO.out HK.out HK.out.size aoL L.length capL bL oL (L.flatMap Rf.cells) (by rfl) (HHL.out.keeps HK.out) HO1.out (by omega) (by omega) ?_); intro v5 w5 hown5 hb5 hsz5; rw [Nat.zero_add, List.nil_append] at hown5; have HX := Lib.hid hown5; have HKX : Hid (Keeps w w5) := Lib.hid hb5; clear hown5 hb5)
          go_roundw
          case rel => exact ⟨HKX, .inr (.inl ⟨rfl, HX⟩)⟩
          case measure => simp [intOf]
        · go_wp2_with (at_builtin; (refine wpList_app_all elemRf rfl (.tmp 31) (.tmp 32) rfl w _ L.length _ rfl w.heap.size HO.out HK.out HK.out.size aoR R.length capR bR oR (R.flatMap Rf.cells) (by rfl) (HHR.out.keeps HK.out) HO2.out (by omega) (by omega) ?_); intro v5 w5 hown5 hb5 hsz5; have HX := Lib.hid hown5; have HKX : Hid (Keeps w w5) := Lib.hid hb5; clear hown5 hb5)
          go_roundw
          case rel => exact ⟨HKX, .inr (.inr ⟨rfl, HX⟩)⟩
          case measure => simp [intOf]
        · go_wp2_with fail
          go_ret
          exact ⟨_, rfl, by rw [List.length_append, List.flatMap_append]; exact HO.out, HK.out⟩
end Go.Proofs.YtoaidbhiciaeaaaGreat

end
section
namespace Go.Proofs.YtoaidbhiciaeaaaGreat
open Go.RowKit
set_option linter.unusedSimpArgs false
set_option linter.unusedVariables false
theorem results_tmp3 {fn : Func} {t u v : Tmp} (h : fn.results = #[.tmp t, .tmp u, .tmp v]) (tmps : Array Value) (P : Program) (w : World) :
    (results fn tmps).run P w = .ok (.tuple #[tmps.getD t undef, tmps.getD u undef, tmps.getD v undef]) w := by
  simp [results, h, Sem.run_bind, Result.andThen]
set_option maxRecDepth 100000 in
set_option maxHeartbeats 4000000 in
theorem entP_any (bv : List Value) (es : List JV) (ms : List MV) (L : List Rf) (ao : Option Addr) (cap b o : Nat) (w : World) (H : Bks w bv es ms) (hm : ∀ e ∈ es, e.x.lines.length ≤ 8) (HL : Recs w 2 Rf.cells ao L cap b o) :
    Calls Tryz.prog 116 #[.agg bv.toArray, .slice ao L.length cap] w fun e w' => e = .returned (.tuple #[.int .i64 (entP es L).1, .int .i64 (entP es L).2.1, .bool (entP es L).2.2]) ∧ Keeps w w' := by
  have hcap := Sl.cap HL
  have hle := Sl.le HL
  have HBL := Lib.hid H.len
  have HF : Hid (∀ (r : Rf) W, Keeps w W → Calls Tryz.prog 151 #[.agg bv.toArray, .agg #[.int .i64 r.e, .int .i64 r.l]] W (EpOut W (ep es r))) := Lib.hid (fun r W hk => epP_any bv es ms r W (H.keeps hk) hm)
  have HHL := Lib.hid HL
  have hrg := box_range w bv 36
  have hk0 : Keeps w (w.alloc (.cells bv.toArray 36)) := (Keeps.refl w).alloc _
  obtain ⟨W1, hW1⟩ : ∃ W1, w.alloc (.cells bv.toArray 36) = W1 := ⟨_, rfl⟩
  rw [hW1] at hrg hk0
  have HW1 := Lib.hid hk0
  have HRG : Hid (∀ W, Keeps W1 W → W.rangeAt w.heap.size 0 bv) := Lib.hid (fun W hk => range_keeps hrg hk)
  clear H HL hrg hk0 hm
  go_enter Tryz.func116, Tryz.ntmps116
  go_wp2_with fail
  try rw [hW1]
  clear hW1
  go_loopw [7, 8, 16] (fun vf vp vi wr => ∃ (k : Nat) (f p : Int), k ≤ L.length ∧ vi = .int .i64 k ∧ vf = .int .i64 f ∧ vp = .int .i64 p ∧ Hid (∀ j (hj : j < L.length), j < k → ep es L[j] = some (f, p)) ∧ Hid (k = 0 → (f, p) = (0, 0)) ∧ Hid (Keeps W1 wr)) (fun _ _ vi _ => L.length - (intOf vi).toNat)
  case atStart => exact ⟨0, 0, 0, Nat.zero_le _, rfl, rfl, rfl, Lib.hid (fun j _ h => absurd h (Nat.not_lt_zero _)), Lib.hid (fun _ => rfl), Lib.hid (Keeps.refl _)⟩
  case round =>
    obtain ⟨k, f, p, hk, rfl, rfl, rfl, HA, HZ, HW⟩ := hrel
    by_cases hlt : k < L.length
    · have hr := HHL.out.keeps (HW1.out.trans HW.out)
      have hix := Sl.at hr Tryz.underlying46 Tryz.sizeOf51 k hlt
      obtain ⟨r, hrk⟩ : ∃ r, L[k] = r := ⟨_, rfl⟩
      have c0 := hr.cell Rf.len k hlt 0 (.int .i64 r.e) (by rw [hrk]; rfl)
      have c1 := hr.cell Rf.len k hlt 1 (.int .i64 r.l) (by rw [hrk]; rfl)
      rw [Nat.add_zero] at c0
      have HRK := Lib.hid hrk
      have HF := Lib.hid (HF.out r)
      clear hr hrk
      cases hq : ep es r with
      | none =>
        have HB := Lib.hid (entP_bad (sideE_bad1 (es := es) hlt (by rw [HRK.out]; exact hq)))
        rw [hq] at HF
        unfold EpOut at HF
        simp only [Option.getD_none, Option.isSome_none] at HF
        clear hq
        go_upto_region 6 with (first | (refine wpList_rowG 36 _ rfl rfl w.heap.size bv _ rfl (HRG.out _ (HW.out.alloc _)) Tryz.underlying36 rfl (by rw [HBL.out]; exact booksSize) ?_) | (go_at_call 151; (refine (HF.out _ (HW1.out.trans (HW.out.alloc _))).mono ?_); rintro e2 w2 ⟨c0, c2, c3, c4, s, a9, n9, cap9, l0, l1, rfl, hk2⟩; have K2 := Lib.hid ((HW.out.alloc (.cells #[.int .i64 r.e, .int .i64 r.l] 51)).trans hk2); clear hk2))
        go_wp2_with fail
        (refine bodyPost_ret (results_tmp3 rfl _ _ _) rfl ?_)
        rw [HB.out]
        exact ⟨rfl, HW1.out.trans ((K2.out.alloc _).alloc _)⟩
      | some q =>
        obtain ⟨x, y⟩ := q
        rw [hq] at HF
        unfold EpOut at HF
        simp only [Option.getD_some, Option.isSome_some] at HF
        have HQ := Lib.hid hq
        clear hq
        have HSt : k = 0 ∨ (x = f ∧ y = p) → Hid (∀ j (hj : j < L.length), j < k + 1 → ep es L[j] = some (x, y)) := fun h => Lib.hid (fun j hj hjk => by
          by_cases e : j < k
          · rcases h with h | ⟨h1, h2⟩
            · omega
            · rw [h1, h2]; exact HA.out j hj e
          · obtain rfl : j = k := by omega
            rw [HRK.out]; exact HQ.out)
        by_cases hk0 : k = 0
        · have HS := HSt (.inl hk0)
          have e1 : decide (0 < k) = false := decide_eq_false (by omega)
          have HK0 := Lib.hid hk0
          clear hk0 HSt
          go_upto_region 6 with (first | (refine wpList_rowG 36 _ rfl rfl w.heap.size bv _ rfl (HRG.out _ (HW.out.alloc _)) Tryz.underlying36 rfl (by rw [HBL.out]; exact booksSize) ?_) | (go_at_call 151; (refine (HF.out _ (HW1.out.trans (HW.out.alloc _))).mono ?_); rintro e2 w2 ⟨c0, c2, c3, c4, s, a9, n9, cap9, l0, l1, rfl, hk2⟩; have K2 := Lib.hid ((HW.out.alloc (.cells #[.int .i64 r.e, .int .i64 r.l] 51)).trans hk2); clear hk2))
          go_wp2_with fail
          go_quiet (fail)
          go_wp2_with fail
          go_roundw
          case rel => exact ⟨k + 1, x, y, by omega, by go_num, rfl, rfl, HS, Lib.hid (fun h => absurd h (Nat.succ_ne_zero k)), Lib.hid (((K2.out.alloc _).alloc _).drewN _)⟩
          case measure => simp [intOf]; omega
        · have e1 : decide (0 < k) = true := decide_eq_true (by omega)
          have h0 : ep es (L[0]'(by omega)) = some (f, p) := HA.out 0 (by omega) (by omega)
          have HBD : (x, y) ≠ (f, p) → Hid (entP es L = (0, 0, false)) := fun hne => Lib.hid (entP_bad (sideE_bad2 hlt h0 (by rw [HRK.out]; exact HQ.out) hne))
          clear h0 hk0
          by_cases hxf : x = f
          · by_cases hyp : y = p
            · have HS := HSt (.inr ⟨hxf, hyp⟩)
              have e2 : (x != f) = false := by simp [hxf]
              have e3 : (y != p) = false := by simp [hyp]
              clear hxf hyp HSt HBD
              go_upto_region 6 with (first | (refine wpList_rowG 36 _ rfl rfl w.heap.size bv _ rfl (HRG.out _ (HW.out.alloc _)) Tryz.underlying36 rfl (by rw [HBL.out]; exact booksSize) ?_) | (go_at_call 151; (refine (HF.out _ (HW1.out.trans (HW.out.alloc _))).mono ?_); rintro e2 w2 ⟨c0, c2, c3, c4, s, a9, n9, cap9, l0, l1, rfl, hk2⟩; have K2 := Lib.hid ((HW.out.alloc (.cells #[.int .i64 r.e, .int .i64 r.l] 51)).trans hk2); clear hk2))
              go_wp2_with fail
              go_quiet (fail)
              go_wp2_with fail
              go_roundw
              case rel => exact ⟨k + 1, x, y, by omega, by go_num, rfl, rfl, HS, Lib.hid (fun h => absurd h (Nat.succ_ne_zero k)), Lib.hid (((K2.out.alloc _).alloc _).drewN _)⟩
              case measure => simp [intOf]; omega
            · have HB := HBD (by intro h; cases h; exact hyp rfl)
              have e2 : (x != f) = false := by simp [hxf]
              have e3 : (y != p) = true := by simpa using hyp
              clear hxf hyp HSt HBD
              go_upto_region 6 with (first | (refine wpList_rowG 36 _ rfl rfl w.heap.size bv _ rfl (HRG.out _ (HW.out.alloc _)) Tryz.underlying36 rfl (by rw [HBL.out]; exact booksSize) ?_) | (go_at_call 151; (refine (HF.out _ (HW1.out.trans (HW.out.alloc _))).mono ?_); rintro e2 w2 ⟨c0, c2, c3, c4, s, a9, n9, cap9, l0, l1, rfl, hk2⟩; have K2 := Lib.hid ((HW.out.alloc (.cells #[.int .i64 r.e, .int .i64 r.l] 51)).trans hk2); clear hk2))
              go_wp2_with fail
              (refine bodyPost_ret (results_tmp3 rfl _ _ _) rfl ?_)
              rw [HB.out]
              exact ⟨rfl, HW1.out.trans ((K2.out.alloc _).alloc _)⟩
          · have HB := HBD (by intro h; cases h; exact hxf rfl)
            have e2 : (x != f) = true := by simpa using hxf
            clear hxf HSt HBD
            go_upto_region 6 with (first | (refine wpList_rowG 36 _ rfl rfl w.heap.size bv _ rfl (HRG.out _ (HW.out.alloc _)) Tryz.underlying36 rfl (by rw [HBL.out]; exact booksSize) ?_) | (go_at_call 151; (refine (HF.out _ (HW1.out.trans (HW.out.alloc _))).mono ?_); rintro e2 w2 ⟨c0, c2, c3, c4, s, a9, n9, cap9, l0, l1, rfl, hk2⟩; have K2 := Lib.hid ((HW.out.alloc (.cells #[.int .i64 r.e, .int .i64 r.l] 51)).trans hk2); clear hk2))
            go_wp2_with fail
            (refine bodyPost_ret (results_tmp3 rfl _ _ _) rfl ?_)
            rw [HB.out]
            exact ⟨rfl, HW1.out.trans ((K2.out.alloc _).alloc _)⟩
    · have HG := Lib.hid (entP_good (sideE_good (es := es) (L := L) (x := (f, p)) (fun j hj => HA.out j hj (by omega)) (fun h => HZ.out (by omega))))
      by_cases h1 : 1 ≤ L.length
      · have e1 : decide ((1 : Int) ≤ (L.length : Int)) = true := decide_eq_true (by omega)
        by_cases h2 : L.length ≤ 12
        · have e2 : decide ((L.length : Int) ≤ 12) = true := decide_eq_true (by omega)
          have HD : Hid (decide (1 ≤ L.length ∧ L.length ≤ 12) = true) := Lib.hid (decide_eq_true ⟨h1, h2⟩)
          clear h1 h2
          go_wp2_with fail
          (refine bodyPost_ret (results_tmp3 rfl _ _ _) rfl ?_)
          rw [HG.out, HD.out]
          exact ⟨rfl, HW1.out.trans HW.out⟩
        · have e2 : decide ((L.length : Int) ≤ 12) = false := decide_eq_false (by omega)
          have HD : Hid (decide (1 ≤ L.length ∧ L.length ≤ 12) = false) := Lib.hid (decide_eq_false (fun h => h2 h.2))
          clear h1 h2
          go_wp2_with fail
          (refine bodyPost_ret (results_tmp3 rfl _ _ _) rfl ?_)
          rw [HG.out, HD.out]
          exact ⟨rfl, HW1.out.trans HW.out⟩
      · have e1 : decide ((1 : Int) ≤ (L.length : Int)) = false := decide_eq_false (by omega)
        have HD : Hid (decide (1 ≤ L.length ∧ L.length ≤ 12) = false) := Lib.hid (decide_eq_false (fun h => h1 h.1))
        clear h1
        go_wp2_with fail
        (refine bodyPost_ret (results_tmp3 rfl _ _ _) rfl ?_)
        rw [HG.out, HD.out]
        exact ⟨rfl, HW1.out.trans HW.out⟩
end Go.Proofs.YtoaidbhiciaeaaaGreat

end
