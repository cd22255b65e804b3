/- The iterator over the holdings of a pair: the walk. -/
import Derived.Test.YtkpdimbblcmnaaaKHolP
import Derived.Shelf.Abstract
import Derived.Shelf.RegionOpen
import Derived.WalkKit
import Derived.OwnWalkIn
import Derived.TacticsInMore
import Derived.LoopNIn
import Derived.LoopIn
import Derived.Outline
import Derived.Test.YtkpdimbblcmnaaaProg
namespace Go.Proofs.Ytkpdimbblcmnaaa
open Go.RowKit Go.Shelf
attribute [local go_sem] Oper.semAt_some
set_option linter.unusedSimpArgs false
set_option linter.unusedVariables false

set_option maxHeartbeats 1000000 in
theorem pair_in (F : Fence) (n : Nat) (h1 : F.fn 63) (hro : F.round = none) (ao : Option Addr) (len cap : Nat) (h e : Int) (w : World) :
    CallsIn F n Try.prog 63 #[.slice ao len cap, .int .i64 h, .int .i64 e] w fun en w' => en = .returned (.func (.func 67) #[] #[.pointer (some ⟨w.heap.size, 0, none⟩), .pointer (some ⟨w.heap.size + 1, 0, none⟩), .pointer (some ⟨w.heap.size + 1 + 1, 0, none⟩)]) ∧
      w' = ((w.alloc (.cells #[.slice ao len cap] 23)).alloc (.cells #[.int .i64 h] 3)).alloc (.cells #[.int .i64 e] 3) := by
  refine callsIn_of_wp Try.func63 rfl h1 ?_ hro
  simp only [Try.ntmps63, List.size_toArray, List.length_cons, List.length_nil, Nat.reduceAdd, Nat.reduceSub, Array.replicate_succ, Array.replicate_zero, List.push_toArray, List.append_toArray, List.nil_append, List.cons_append]
  gi_wp2
  go_ret
  exact ⟨rfl, rfl⟩

/-- The three boxes of the iterator, and the list. -/
structure PairG (W : World) (B0 : Nat) (ao : Option Addr) (xs : List Hol) (cap b o : Nat) (h e : Int) : Prop where
  c0 : W.cell? ⟨B0, 0, none⟩ = some (.slice ao xs.length cap)
  c1 : W.cell? ⟨B0 + 1, 0, none⟩ = some (.int .i64 h)
  c2 : W.cell? ⟨B0 + 1 + 1, 0, none⟩ = some (.int .i64 e)
  hs : Hols W ao xs cap b o

set_option maxRecDepth 100000 in
set_option maxHeartbeats 2000000 in
theorem pair1_in (F : Fence) (n : Nat) (h1 : F.fn 67) (hro : F.round = none) (hn : 1 ≤ n) (l B0 N0 lo hi : Nat) (ao : Option Addr) (xs : List Hol) (cap b o : Nat) (h e : Int) (J Jx : List Hol → World → Prop)
    (hB0 : B0 + 1 + 1 < N0) (hhi : hi ≤ B0) (hbN : xs.length ≠ 0 → b < N0) (hb : xs.length ≠ 0 → b < lo)
    (hY : ∀ pre x W, J pre W → pre.length < xs.length → YieldAt F (n - 1) Try.prog l #[x.val] W fun en W' =>
      (en = .returned (.bool true) ∧ J (pre ++ [x]) W' ∧ KeepBut N0 lo hi W W') ∨ (en = .returned (.bool false) ∧ Jx (pre ++ [x]) W'))
    (W : World) (hJ : AbidesFrom W.heap.size J) (hN : N0 ≤ W.heap.size) (hG : PairG W B0 ao xs cap b o h e) (h0 : J [] W) :
    CallsIn F n Try.prog 67 #[.func (.yield l) #[] #[], .pointer (some ⟨B0, 0, none⟩), .pointer (some ⟨B0 + 1, 0, none⟩), .pointer (some ⟨B0 + 1 + 1, 0, none⟩)] W fun en W' => (∃ v, en = .returned v) ∧
      ((∃ ys, ys = ofPair xs h e ∧ J ys W') ∨ (∃ pre, pre <+: ofPair xs h e ∧ Jx pre W')) := by
  have hcap := Sl.cap hG.hs
  have hle := Sl.le hG.hs
  have c0 := hG.c0
  have HG := Lib.hid hG
  have HJ := Lib.hid hJ
  have HY := Lib.hid hY
  clear hG hJ hY
  refine callsIn_of_wp Try.func67 rfl h1 ?_ hro
  simp only [Try.ntmps67, List.size_toArray, List.length_cons, List.length_nil, Nat.reduceAdd, Nat.reduceSub, Array.replicate_succ, Array.replicate_zero, List.push_toArray, List.append_toArray, List.nil_append, List.cons_append]
  gi_wp2
  gi_loopw [9] (fun vi wr => ∃ k : Nat, k ≤ xs.length ∧ vi = .int .i64 k ∧ Hid (J (ofPair (xs.take k) h e) wr ∧ KeepBut N0 lo hi W wr ∧ W.heap.size ≤ wr.heap.size)) (fun vi _ => xs.length - (intOf vi).toNat)
  case atStart => exact ⟨0, Nat.zero_le _, rfl, Lib.hid ⟨h0, KeepBut.refl _ _ _ _, Nat.le_refl _⟩⟩
  case round =>
    obtain ⟨k, hk, rfl, HW⟩ := hrel
    by_cases hlt : k < xs.length
    · have hL : Hols wr ao xs cap b o := HW.out.2.1.hols (hbN (by omega)) (.inl (hb (by omega))) HG.out.hs
      have hix := Sl.at hL Try.underlying23 Try.sizeOf46 k hlt
      have l0 := hL.cell Hol.len k hlt 0 _ rfl
      have l1 := hL.cell Hol.len k hlt 1 _ rfl
      have l2 := hL.cell Hol.len k hlt 2 _ rfl
      have l3 := hL.cell Hol.len k hlt 3 _ rfl
      simp only [Nat.add_zero] at l0
      have d1 := HW.out.2.1.cell (p := ⟨B0 + 1, 0, none⟩) (by show B0 + 1 < N0; omega) (.inr (by show hi ≤ B0 + 1; omega)) HG.out.c1
      have d2 := HW.out.2.1.cell (p := ⟨B0 + 1 + 1, 0, none⟩) (by show B0 + 1 + 1 < N0; omega) (.inr (by show hi ≤ B0 + 1 + 1; omega)) HG.out.c2
      have hb1 := World.block_lt_of_cell? _ _ d1
      have hb2 := World.block_lt_of_cell? _ _ d2
      have hw2 := HW.out.2.2
      clear hL
      have HJ2 : Hid (J (ofPair (xs.take k) h e) (wr.alloc (.cells #[.int .i64 xs[k].holder, .int .i64 xs[k].entity, .int .i64 xs[k].date, .int .i64 xs[k].share] 46)) ∧ KeepBut N0 lo hi W (wr.alloc (.cells #[.int .i64 xs[k].holder, .int .i64 xs[k].entity, .int .i64 xs[k].date, .int .i64 xs[k].share] 46))) :=
        Lib.hid ⟨HJ.out _ _ _ none HW.out.1 (World.grownBy_alloc wr _ none) (fun r e => by cases e), HW.out.2.1.alloc (by omega) _⟩
      cases p1 : (xs[k].holder == h) with
      | false =>
        have hp : Hid (ofPair (xs.take (k + 1)) h e = ofPair (xs.take k) h e) := Lib.hid (by rw [take_snoc _ _ hlt]; exact ofPair_no (by unfold pairB; rw [p1]; rfl))
        gi_wp2
        all_goals
          refine ⟨fun _ h => (by cases h), ?_⟩
          gi_wp2
          go_roundw
          case rel => exact ⟨k + 1, by omega, by go_num, Lib.hid ⟨by rw [hp.out]; exact HJ2.out.1, HJ2.out.2, by simp; omega⟩⟩
          case measure => simp [intOf]; omega
      | true =>
        cases p2 : (xs[k].entity == e) with
        | false =>
          have hp : Hid (ofPair (xs.take (k + 1)) h e = ofPair (xs.take k) h e) := Lib.hid (by rw [take_snoc _ _ hlt]; exact ofPair_no (by unfold pairB; rw [p1, p2]; rfl))
          gi_wp2
          all_goals
            refine ⟨fun _ h => (by cases h), ?_⟩
            gi_wp2
            go_roundw
            case rel => exact ⟨k + 1, by omega, by go_num, Lib.hid ⟨by rw [hp.out]; exact HJ2.out.1, HJ2.out.2, by simp; omega⟩⟩
            case measure => simp [intOf]; omega
        | true =>
          have hp : Hid (ofPair (xs.take (k + 1)) h e = ofPair (xs.take k) h e ++ [xs[k]]) := Lib.hid (by rw [take_snoc _ _ hlt]; exact ofPair_yes (by unfold pairB; rw [p1, p2]; rfl))
          have hlen : (ofPair (xs.take k) h e).length < xs.length := by
            have h1 := ofPair_len (xs.take k) h e
            rw [List.length_take] at h1
            omega
          obtain ⟨fn, tmps, assign, body, hy, hR⟩ := HY.out _ xs[k] _ HJ2.out.1 hlen
          have HR := Lib.hid hR
          simp only [Hol.val] at hy
          have hw3 : W.heap.size ≤ (wr.alloc (.cells #[.int .i64 xs[k].holder, .int .i64 xs[k].entity, .int .i64 xs[k].date, .int .i64 xs[k].share] 46)).heap.size := by simp; omega
          clear hR
          gi_wp2
          refine HR.out.mono ?_
          rintro en W3 (⟨rfl, hJ3, hk3⟩ | ⟨rfl, hJx3⟩)
          · have hw4 := hk3.size
            gi_wp2
            go_roundw
            case rel => exact ⟨k + 1, by omega, by go_num, Lib.hid ⟨by rw [hp.out]; exact hJ3, HJ2.out.2.trans hk3, by omega⟩⟩
            case measure => simp [intOf]; omega
          · have hpre : Hid (ofPair (xs.take k) h e ++ [xs[k]] <+: ofPair xs h e) := Lib.hid (by rw [← hp.out]; exact (List.take_prefix _ _).filter _)
            gi_wp2
            refine bodyPost_ret (results_none rfl _ _ _) rfl ?_
            exact ⟨⟨_, rfl⟩, .inr ⟨_, hpre.out, hJx3⟩⟩
    · obtain rfl : k = xs.length := by omega
      have hp : Hid (ofPair (xs.take xs.length) h e = ofPair xs h e) := Lib.hid (by rw [List.take_length])
      gi_wp2
      go_end0
      exact ⟨⟨_, rfl⟩, .inl ⟨_, rfl, by rw [← hp.out]; exact HW.out.1⟩⟩

/-- The iterator's value keeps its word. -/
theorem pair_stops (F : Fence) (n : Nat) (h1 : F.fn 67) (hro : F.round = none) (hn : 1 ≤ n) (B0 lo hi : Nat) (ao : Option Addr) (xs : List Hol) (cap b o : Nat) (h e : Int) (w : World)
    (hB0 : B0 + 1 + 1 < w.heap.size) (hhi : hi ≤ B0) (hbN : xs.length ≠ 0 → b < w.heap.size) (hb : xs.length ≠ 0 → b < lo) (hG : PairG w B0 ao xs cap b o h e) :
    SeqStopsK F n Try.prog 67 #[.pointer (some ⟨B0, 0, none⟩), .pointer (some ⟨B0 + 1, 0, none⟩), .pointer (some ⟨B0 + 1 + 1, 0, none⟩)] (fun x : Hol => #[.agg #[.int .i64 x.holder, .int .i64 x.entity, .int .i64 x.date, .int .i64 x.share]]) (KeepBut w.heap.size lo hi) (fun ys => ys = ofPair xs h e) (fun pre => pre <+: ofPair xs h e) xs.length w :=
  fun l J Jx W hW hJ hJx hY h0 => by
    have hc : ∀ p : Addr, p.block < w.heap.size → ∀ v, w.cell? p = some v → W.cell? p = some v := fun p hp v hv => (hW.cell hp).trans hv
    refine pair1_in F n h1 hro hn l B0 w.heap.size lo hi ao xs cap b o h e J Jx hB0 hhi hbN hb (fun pre x W1 hj hl => ?_) W hJ hW.size ⟨hc _ (by show B0 < _; omega) _ hG.c0, hc _ (by show B0 + 1 < _; omega) _ hG.c1, hc _ hB0 _ hG.c2, ⟨hG.hs.len, hG.hs.le, hG.hs.nocap, hG.hs.cap, hG.hs.addr, fun j u hu => hc ⟨b, o + j, none⟩ (hbN (fun e0 => by
      have := Sl.len hG.hs
      rw [e0] at this
      have h2 : xs.flatMap Hol.cells = [] := List.eq_nil_of_length_eq_zero (by omega)
      rw [h2] at hu; simp at hu)) u (Sl.cell hG.hs j u hu)⟩⟩ h0
    exact hY pre x W1 hj hl
end Go.Proofs.Ytkpdimbblcmnaaa
