/- Walks and plain facts that the claim rests on (HolAtW, HolTotW, HolValW). No condition. -/
import Derived.Test.YtoaidbhiciaeaaaGreatOr05
import Derived.Test.YtoaidbhiciaeaaaGreatOr02
import Derived.Maps.RangeWalk
section
namespace Go.Proofs.YtoaidbhiciaeaaaGreat
open Go.RowKit Go.Shelf
attribute [local go_sem] Oper.semAt_some
set_option linter.unusedSimpArgs false
set_option linter.unusedVariables false
def Box4 (W : World) (B : Nat) (x : Hol) : Prop := W.heap[B]? = some (.cells #[.int .i64 x.holder, .int .i64 x.entity, .int .i64 x.date, .int .i64 x.share] 101 (0, 0))
theorem Box4.new (W : World) (x : Hol) : Box4 (W.alloc (.cells #[.int .i64 x.holder, .int .i64 x.entity, .int .i64 x.date, .int .i64 x.share] 101)) W.heap.size x := World.alloc_heap_new W _
theorem Box4.own {X Y : World} {row : Option Nat} {B : Nat} {x : Hol} (h : Box4 X B x) (hg : X.grownBy Y row) (hr : ∀ r, row = some r → ∃ o : Obj, X.heap[r]? = some o ∧ o.isCells = false) : Box4 Y B x := by
  refine (hg.block B (Array.getElem?_eq_some_iff.1 h).1 (fun e => ?_)).trans h
  obtain ⟨o, ho, hc⟩ := hr B e.symm
  rw [show X.heap[B]? = _ from h] at ho
  cases ho; cases hc
theorem Box4.cells {W : World} {B : Nat} {x : Hol} (h : Box4 W B x) : W.cell? ⟨B, 0, none⟩ = some (.int .i64 x.holder) ∧ W.cell? ⟨B, 1, none⟩ = some (.int .i64 x.entity) ∧ W.cell? ⟨B, 2, none⟩ = some (.int .i64 x.date) ∧ W.cell? ⟨B, 3, none⟩ = some (.int .i64 x.share) := by
  refine ⟨?_, ?_, ?_, ?_⟩ <;> simp [World.cell?, show W.heap[B]? = _ from h]
def AtI (w : World) (N : Nat) (d : Int) (c : Option Hol) (W : World) : Prop :=
  ((Boxed W (w.heap.size + 1) 3 (.int .i64 (shareOf c)) ∧ Boxed W (w.heap.size + 1 + 1) 3 (.int .i64 (sinceOf c))) ∧ (Boxed W (w.heap.size + 1 + 1 + 1) 4 (.bool c.isSome) ∧ Boxed W w.heap.size 3 (.int .i64 d))) ∧ (Below w.heap.size w W ∧ N ≤ W.heap.size)
theorem three {w W : World} {N : Nat} {d : Int} {c c' : Option Hol} (hI : AtI w N d c W) (x : Hol) (hN : w.heap.size + 7 ≤ N) (hc : c' = some x) :
    KeepsFrom N W (((W.setCell ⟨w.heap.size + 1, 0, none⟩ (.int .i64 x.share)).setCell ⟨w.heap.size + 1 + 1, 0, none⟩ (.int .i64 x.date)).setCell ⟨w.heap.size + 1 + 1 + 1, 0, none⟩ (.bool true)).drew ∧
    KeepBut N (w.heap.size + 1) (w.heap.size + 1 + 1 + 1 + 1) W (((W.setCell ⟨w.heap.size + 1, 0, none⟩ (.int .i64 x.share)).setCell ⟨w.heap.size + 1 + 1, 0, none⟩ (.int .i64 x.date)).setCell ⟨w.heap.size + 1 + 1 + 1, 0, none⟩ (.bool true)).drew ∧
    AtI w N d c' (((W.setCell ⟨w.heap.size + 1, 0, none⟩ (.int .i64 x.share)).setCell ⟨w.heap.size + 1 + 1, 0, none⟩ (.int .i64 x.date)).setCell ⟨w.heap.size + 1 + 1 + 1, 0, none⟩ (.bool true)).drew := by
  subst hc
  obtain ⟨⟨⟨b1, b2⟩, ⟨b3, b4⟩⟩, ⟨hb, hn⟩⟩ := hI
  have n1 : w.heap.size + 1 ≠ w.heap.size + 1 + 1 := by omega
  have n2 : w.heap.size + 1 ≠ w.heap.size + 1 + 1 + 1 := by omega
  have n3 : w.heap.size + 1 + 1 ≠ w.heap.size + 1 + 1 + 1 := by omega
  have n4 : w.heap.size ≠ w.heap.size + 1 := by omega
  have n5 : w.heap.size ≠ w.heap.size + 1 + 1 := by omega
  have n6 : w.heap.size ≠ w.heap.size + 1 + 1 + 1 := by omega
  refine ⟨((((KeepsOthers.setCell W _ _).trans (KeepsOthers.setCell _ _ _)).trans (KeepsOthers.setCell _ _ _)).trans (KeepsOthers.drew _)).from _,
    (((((KeepBut.refl N _ _ W).setCell (p := ⟨w.heap.size + 1, 0, none⟩) (by first | (simp; done) | (simp; omega)) (by first | (simp; done) | (simp; omega)) _).setCell (p := ⟨w.heap.size + 1 + 1, 0, none⟩) (by first | (simp; done) | (simp; omega)) (by first | (simp; done) | (simp; omega)) _).setCell (p := ⟨w.heap.size + 1 + 1 + 1, 0, none⟩) (by first | (simp; done) | (simp; omega)) (by first | (simp; done) | (simp; omega)) _).drew),
    ⟨⟨⟨((b1.set _).other n1 _).other n2 _, ((b2.other n1.symm _).set _).other n3 _⟩, ⟨((b3.other n2.symm _).other n3.symm _).set _, ((b4.other n4 _).other n5 _).other n6 _⟩⟩, ⟨(((hb.setCell (p := ⟨w.heap.size + 1, 0, none⟩) (by simp) _).setCell (p := ⟨w.heap.size + 1 + 1, 0, none⟩) (by simp; omega) _).setCell (p := ⟨w.heap.size + 1 + 1 + 1, 0, none⟩) (by simp; omega) _).drew, by simpa [World.setCell, World.drew] using hn⟩⟩⟩
set_option maxRecDepth 100000 in
set_option maxHeartbeats 4000000 in
theorem at_in (F : Fence) (n : Nat) (h1 : F.fn 111) (h2 : F.fn 150) (h3 : F.fn 173) (hro : F.round = none) (hn : 4 ≤ n) (ao : Option Addr) (xs : List Hol) (cap b o : Nat) (h e d : Int) (w : World) (H : Hols w ao xs cap b o) :
    CallsIn F n Tryz.prog 111 #[.slice ao xs.length cap, .int .i64 h, .int .i64 e, .int .i64 d] w fun en w' => en = .returned (.int .i64 (atH xs h e d)) ∧ Keeps w w' := by
  have hn1 : 1 ≤ n := by omega
  have HH := Lib.hid H
  clear H
  refine callsIn_of_wp_marks Tryz.func111 rfl h1 ?_ hro
  simp only [Tryz.ntmps111, List.size_toArray, List.length_cons, List.length_nil, Nat.reduceAdd, Nat.reduceSub, Array.replicate_succ, Array.replicate_zero, List.push_toArray, List.append_toArray, List.nil_append, List.cons_append]
  gi_wp2_with (gi_at_call 150; refine (pair_in F (n - 1) h2 hro _ _ _ _ _ _).mono ?_; rintro en w' ⟨rfl, rfl⟩)
  have bD := ((((((Boxed.new w 3 (.int .i64 d)).alloc (.cells #[.int .i64 0] 3)).alloc (.cells #[.int .i64 0] 3)).alloc (.cells #[.bool false] 4)).alloc (.cells #[.slice ao xs.length cap] 32)).alloc (.cells #[.int .i64 h] 3)).alloc (.cells #[.int .i64 e] 3)
  have bS := (((((Boxed.new (w.alloc (.cells #[.int .i64 d] 3)) 3 (.int .i64 0)).alloc (.cells #[.int .i64 0] 3)).alloc (.cells #[.bool false] 4)).alloc (.cells #[.slice ao xs.length cap] 32)).alloc (.cells #[.int .i64 h] 3)).alloc (.cells #[.int .i64 e] 3)
  have bT := ((((Boxed.new ((w.alloc (.cells #[.int .i64 d] 3)).alloc (.cells #[.int .i64 0] 3)) 3 (.int .i64 0)).alloc (.cells #[.bool false] 4)).alloc (.cells #[.slice ao xs.length cap] 32)).alloc (.cells #[.int .i64 h] 3)).alloc (.cells #[.int .i64 e] 3)
  have bF := (((Boxed.new (((w.alloc (.cells #[.int .i64 d] 3)).alloc (.cells #[.int .i64 0] 3)).alloc (.cells #[.int .i64 0] 3)) 4 (.bool false)).alloc (.cells #[.slice ao xs.length cap] 32)).alloc (.cells #[.int .i64 h] 3)).alloc (.cells #[.int .i64 e] 3)
  simp only [World.size_alloc] at bS bT bF
  have hB0 : Keeps w (((((((w.alloc (.cells #[.int .i64 d] 3)).alloc (.cells #[.int .i64 0] 3)).alloc (.cells #[.int .i64 0] 3)).alloc (.cells #[.bool false] 4)).alloc (.cells #[.slice ao xs.length cap] 32)).alloc (.cells #[.int .i64 h] 3)).alloc (.cells #[.int .i64 e] 3)) := (((((((Keeps.refl w).alloc _).alloc _).alloc _).alloc _).alloc _).alloc _).alloc _
  have hsz : ((((((((w.alloc (.cells #[.int .i64 d] 3)).alloc (.cells #[.int .i64 0] 3)).alloc (.cells #[.int .i64 0] 3)).alloc (.cells #[.bool false] 4)).alloc (.cells #[.slice ao xs.length cap] 32)).alloc (.cells #[.int .i64 h] 3)).alloc (.cells #[.int .i64 e] 3))).heap.size = w.heap.size + 7 := by simp
  have hG : PairG (((((((w.alloc (.cells #[.int .i64 d] 3)).alloc (.cells #[.int .i64 0] 3)).alloc (.cells #[.int .i64 0] 3)).alloc (.cells #[.bool false] 4)).alloc (.cells #[.slice ao xs.length cap] 32)).alloc (.cells #[.int .i64 h] 3)).alloc (.cells #[.int .i64 e] 3)) (w.heap.size + 1 + 1 + 1 + 1) ao xs cap b o h e := ⟨by go_simp, by go_simp, by go_simp, HH.out.keeps hB0⟩
  obtain ⟨W0, hW0⟩ : ∃ W0, (((((((w.alloc (.cells #[.int .i64 d] 3)).alloc (.cells #[.int .i64 0] 3)).alloc (.cells #[.int .i64 0] 3)).alloc (.cells #[.bool false] 4)).alloc (.cells #[.slice ao xs.length cap] 32)).alloc (.cells #[.int .i64 h] 3)).alloc (.cells #[.int .i64 e] 3)) = W0 := ⟨_, rfl⟩
  rw [hW0] at bD bS bT bF hB0 hsz hG ⊢
  have hs1 : w.heap.size + 7 ≤ W0.heap.size := by omega
  have hs2 : W0.heap.size ≤ w.heap.size + 7 := by omega
  clear hW0 hsz
  have hbw : xs.length ≠ 0 → b < w.heap.size := fun hne => by
    have hc := HH.out.cell Hol.len 0 (by omega) 0 _ rfl
    exact World.block_lt_of_cell? _ _ hc
  refine wpIn_rangeFunc_ownH hro hn1 (gf := 173) (lb := #[.pointer (some ⟨w.heap.size + 1 + 1 + 1 + 1, 0, none⟩), .pointer (some ⟨w.heap.size + 1 + 1 + 1 + 1 + 1, 0, none⟩), .pointer (some ⟨w.heap.size + 1 + 1 + 1 + 1 + 1 + 1, 0, none⟩)]) rfl h3 (enters_of Tryz.func173 (by kernel_rfl) rfl)
    (pair_stops F (n - 1) h3 hro (by omega) (w.heap.size + 1 + 1 + 1 + 1) (w.heap.size + 1) (w.heap.size + 1 + 1 + 1 + 1) ao xs cap b o h e W0 (by omega) (by omega) (fun hne => by have := hbw hne; omega) (fun hne => by have := hbw hne; omega) hG)
    (fun h k => h.trans k) (fun W l o o' hl _ _ _ => KeepBut.putObj W l o' hl) (Below.refl _ _) (fun _ => rfl)
    (fun pre W => ((Boxed W (w.heap.size + 1) 3 (.int .i64 (shareOf (curH d pre))) ∧ Boxed W (w.heap.size + 1 + 1) 3 (.int .i64 (sinceOf (curH d pre)))) ∧ (Boxed W (w.heap.size + 1 + 1 + 1) 4 (.bool (curH d pre).isSome) ∧ Boxed W w.heap.size 3 (.int .i64 d))) ∧ (Below w.heap.size w W ∧ W0.heap.size ≤ W.heap.size))
    (fun _ _ _ => False)
    (OwnFrom.and (OwnFrom.and (OwnFrom.and (Own.from (boxed_own _ _ _) _) (Own.from (boxed_own _ _ _) _)) (OwnFrom.and (Own.from (boxed_own _ _ _) _) (Own.from (boxed_own _ _ (fun _ => Value.int .i64 d)) _))) (OwnFrom.and (ownFrom_below (Nat.le_refl _) (by omega)) (fun s X Y row hs hg hr => Nat.le_trans hs hg.size)))
    (fun _ _ _ _ _ hs _ _ => hs)
    ⟨⟨⟨bS, bT⟩, ⟨bF, bD⟩⟩, ⟨hB0, Nat.le_refl _⟩⟩
    (fun x a' W => ∃ Bx, w.heap.size + 1 + 1 + 1 < Bx ∧ Box4 W Bx x ∧ a' = { tmps := #[.slice ao xs.length cap, .int .i64 h, .int .i64 e, .int .i64 d, undef, undef, undef, .pointer (some ⟨w.heap.size, 0, none⟩), .int .i64 0, .pointer (some ⟨w.heap.size + 1, 0, none⟩), .pointer (some ⟨w.heap.size + 1 + 1, 0, none⟩), .pointer (some ⟨w.heap.size + 1 + 1 + 1, 0, none⟩), .pointer (some ⟨Bx, 0, none⟩), .slice ao xs.length cap, .int .i64 h, .int .i64 e, .func (.func 173) #[] #[.pointer (some ⟨w.heap.size + 1 + 1 + 1 + 1, 0, none⟩), .pointer (some ⟨w.heap.size + 1 + 1 + 1 + 1 + 1, 0, none⟩), .pointer (some ⟨w.heap.size + 1 + 1 + 1 + 1 + 1 + 1, 0, none⟩)], .agg #[.int .i64 x.holder, .int .i64 x.entity, .int .i64 x.date, .int .i64 x.share], undef, undef, undef, undef, undef, undef, undef, undef, undef, undef, undef, undef, undef, undef, undef, undef, undef, undef, undef], defers := [] })
    (fun x a' _ X Y row hs hg hr => by obtain ⟨Bx, h1, h2, h3⟩ := hs; exact ⟨Bx, h1, h2.own hg (fun r e => (hr r e).2), h3⟩)
    ?assign ?body ?done ?stop
  case assign =>
    rintro l pre x W K ⟨⟨⟨bS1, bT1⟩, ⟨bF1, bD1⟩⟩, ⟨hB1, hN1⟩⟩ hK
    gi_wp2
    exact hK _ _ ((KeepsOthers.alloc _ _).from _) ((KeepBut.refl _ _ _ W).alloc hN1 _) ⟨⟨⟨bS1.alloc _, bT1.alloc _⟩, ⟨bF1.alloc _, bD1.alloc _⟩⟩, ⟨hB1.alloc hB1.size _, by simp; omega⟩⟩ ⟨W.heap.size, bF1.lt, Box4.new W x, rfl⟩
  case body =>
    rintro l pre x a' W hl ⟨r, hr⟩ ⟨⟨⟨bS1, bT1⟩, ⟨bF1, bD1⟩⟩, ⟨hB1, hN1⟩⟩ ⟨Bx, hBx, bX, rfl⟩ hlt
    obtain ⟨x0, x1, x2, x3⟩ := bX.cells
    have hbx := (Array.getElem?_eq_some_iff.1 bX).1
    have cS := bS1.cell
    have cT := bT1.cell
    have cF := bF1.cell
    have cD := bD1.cell
    have fS := bS1.frozen
    have fT := bT1.frozen
    have fF := bF1.frozen
    have HI := Lib.hid (And.intro (And.intro (And.intro bS1 bT1) (And.intro bF1 bD1)) (And.intro hB1 hN1))
    clear bS1 bT1 bF1 bD1 hB1 hN1 bX hr
    have hmx : Tryz.prog.follows .mixedOrders = true := by kernel_rfl
    by_cases hd : x.date ≤ d
    · cases hc : curH d pre with
      | none =>
        have HC := Lib.hid (curH_first hd hc)
        rw [hc] at cS cT cF
        simp only [shareOf, sinceOf, Option.isSome_none] at cS cT cF
        clear hc
        gi_wp2
        gi_region_with_o (fail)
        all_goals gi_wp2
        all_goals (try go_bits)
        all_goals (exact three HI.out x hs1 HC.out)
      | some m =>
        by_cases hm : m.date < x.date
        · have HC := Lib.hid (curH_new hd hc hm)
          rw [hc] at cS cT cF
          simp only [shareOf, sinceOf, Option.isSome_some] at cS cT cF
          clear hc
          gi_wp2
          gi_region_with_o (fail)
          all_goals gi_wp2
          all_goals (try go_bits)
          all_goals (exact three HI.out x hs1 HC.out)
        · have HC := Lib.hid ((curH_old hd hc hm).trans hc.symm)
          rw [hc] at cS cT cF
          simp only [shareOf, sinceOf, Option.isSome_some] at cS cT cF
          clear hc
          gi_wp2
          exact ⟨KeepsFrom.refl _ _, KeepBut.refl _ _ _ _, by show AtI w _ d (curH d (pre ++ [x])) W; rw [HC.out]; exact HI.out⟩
    · have HC := Lib.hid (curH_late (l := pre) hd)
      gi_wp2
      exact ⟨KeepsFrom.refl _ _, KeepBut.refl _ _ _ _, by show AtI w _ d (curH d (pre ++ [x])) W; rw [HC.out]; exact HI.out⟩
  case done =>
    rintro D ys W hD rfl ⟨⟨⟨bS1, bT1⟩, ⟨bF1, bD1⟩⟩, ⟨hB1, hN1⟩⟩ hK
    have cS := bS1.cell
    gi_wp2
    refine ⟨by simp, .inl ⟨_, _, rfl, run_takeDeferred hK, ?_⟩⟩
    exact ⟨_, results_tmp rfl _ _ _, rfl, hB1.trans (belowK_b (w := w) (Nat.le_refl _) W D _ _ (by omega) hK rfl rfl)⟩
  case stop =>
    rintro D c pre W _ _ h _
    exact h.elim
theorem hat_any (ao : Option Addr) (xs : List Hol) (cap b o : Nat) (h e d : Int) (w : World) (H : Hols w ao xs cap b o) :
    Calls Tryz.prog 111 #[.slice ao xs.length cap, .int .i64 h, .int .i64 e, .int .i64 d] w fun en w' => en = .returned (.int .i64 (atH xs h e d)) ∧ Keeps w w' :=
  (callsIn_wide (n := 4)).1 (at_in Fence.wide 4 trivial trivial trivial rfl (by omega) ao xs cap b o h e d w H)
end Go.Proofs.YtoaidbhiciaeaaaGreat

end
section
namespace Go.Proofs.YtoaidbhiciaeaaaGreat
open Go.RowKit Go.Maps
set_option linter.unusedSimpArgs false
set_option linter.unusedVariables false
theorem ranges_keeps {P : Program} {k : TypeId} {w w' : World} {b r n : Nat} {D : DataW Value} {left : Lit → Bool} {cnt : Nat} (h : w.ranges P k hold b r n D left cnt) (hk : Keeps w w') : w'.ranges P k hold b r n D left cnt := by
  obtain ⟨es, clock, since, seen, c0, hb, F, hs, hD, hr, rest⟩ := h
  exact ⟨es, clock, since, seen, c0, (hk.block b (Array.getElem?_eq_some_iff.1 hb).1).trans hb, F, hs, hD, (hk.block r (Array.getElem?_eq_some_iff.1 hr).1).trans hr, rest⟩
theorem hold_inv (v : Value) (y : DataW Value × List MemPlace) (_ : hold v = some y) : ∃ c : Value, v = c := ⟨v, rfl⟩
theorem key_inv (key : Value) (kl : Lit) (h : keyOf Tryz.prog 3 key = some kl) : ∃ x, key = .int .i64 x := by
  obtain ⟨x, h1, _⟩ := Maps.keyOf_int_inv Tryz.underlying3 h
  exact ⟨x, h1⟩
structure TotI (l : List Hol) (e d : Int) (S : Int) (left : Lit → Bool) : Prop where
  sum : S = doneAt l e d (firstsH l) left
  keys : ∀ x, I64 x → left (.int .i64 x) = true → x ∈ firstsH l
set_option maxRecDepth 100000 in
set_option maxHeartbeats 4000000 in
theorem total_any (ao : Option Addr) (l : List Hol) (cap b o : Nat) (e d : Int) (w : World) (H : Hols w ao l cap b o) (hl : l.length ≤ 1000) (hb : ShB l) (h64 : ∀ x ∈ l, I64 x.holder) :
    Calls Tryz.prog 68 #[.slice ao l.length cap, .int .i64 e, .int .i64 d] w fun en w' => en = .returned (.int .i64 (totH l e d)) ∧ Keeps w w' := by
  have hcap := Sl.cap H
  have hle := Sl.le H
  have HH := Lib.hid H
  have HB := Lib.hid hb
  have H64 := Lib.hid h64
  have hmm := @run_makeMap Tryz.prog
  have hfl : (firstsH l).length ≤ 1000 := Nat.le_trans (firstsH_len l) hl
  clear H hb h64
  go_enter Tryz.func68, Tryz.ntmps68
  go_wp2_with fail
  go_loopw [15] (fun vi wr => ∃ k : Nat, k ≤ l.length ∧ vi = .int .i64 k ∧ Hid (Keeps w wr ∧ VMap intK wr w.heap.size k (hasH (l.take k)))) (fun vi _ => l.length - (intOf vi).toNat)
  case atStart => exact ⟨0, Nat.zero_le _, rfl, Lib.hid ⟨(Keeps.refl w).alloc _, by rw [List.take_zero, hasH_nil]; exact VMap.made intK w⟩⟩
  case round =>
    obtain ⟨k, hk, rfl, HW⟩ := hrel
    by_cases hlt : k < l.length
    · have HL := HH.out.keeps HW.out.1
      have hix := Sl.at HL Tryz.underlying32 Tryz.sizeOf101 k hlt
      have c0 := HL.cell Hol.len k hlt 0 _ rfl
      have c1 := HL.cell Hol.len k hlt 1 _ rfl
      have c2 := HL.cell Hol.len k hlt 2 _ rfl
      have c3 := HL.cell Hol.len k hlt 3 _ rfl
      simp only [Nat.add_zero] at c0
      have hk64 := H64.out _ (List.getElem_mem hlt)
      have HK := Lib.hid hk64
      clear HL hk64
      go_wp2_with (refine wpList_vstore (K := intK) rfl _ _ _ 140 rfl Tryz.underlying140 w.heap.size k rfl (HW.out.2.alloc _) (by unfold maxLen; omega) l[k].holder HK.out rfl (.bool true) rfl (hasH (l.take (k + 1))) (by rw [take_snoc _ _ hlt]; exact (hasH_snoc _ _).1) (fun d _ hd => by rw [take_snoc _ _ hlt]; exact (hasH_snoc _ _).2 d hd) ?_; intro w4 hm4 hg4; have HX : Hid (Keeps w w4 ∧ VMap intK w4 w.heap.size (k + 1) (hasH (l.take (k + 1)))) := Lib.hid ⟨Below.grown (HW.out.1.alloc _) hg4 (HW.out.1.alloc _).size (fun j hj => by cases hj; exact Nat.le_refl _), hm4⟩; clear hm4 hg4)
      go_roundw
      case rel => exact ⟨k + 1, by omega, by go_num, HX⟩
      case measure => simp [intOf]; omega
    · obtain rfl : k = l.length := by omega
      obtain ⟨wo, rfl⟩ : ∃ wo : World, wo = wr := ⟨_, rfl⟩
      obtain ⟨hkw, D, hown, h2⟩ := HW.out
      rw [List.take_length] at h2
      have HD := Lib.hid h2
      have HKW := Lib.hid hkw
      clear h2 hkw HW
      go_wp2_with (first | (at_range; refine wpList_range_own _ rfl _ 140 rfl 3 4 intK.keyed Tryz.underlying140 hold w.heap.size l.length D rfl hown ?_; intro w0 hrg0 hg0 hs0; have HR0 := Lib.hid (And.intro hrg0 (show Keeps w w0 from Below.grown HKW.out hg0 HKW.out.size (fun j hj => by cases hj))); clear hrg0 hg0 hs0))
      go_frame
      go_loopw [10] (fun vs wy => ∃ (S : Int) (left : Lit → Bool) (cnt : Nat), vs = .int .i64 S ∧ -1000000000000 ≤ S ∧ S ≤ 1000000000000 ∧ Hid (wy.ranges Tryz.prog 3 hold w.heap.size wo.heap.size l.length D left cnt ∧ TotI l e d S left ∧ Keeps w wy)) (fun _ wy => wy.rangeLeft w.heap.size wo.heap.size)
      case atStart => exact ⟨0, Maps.has D, Maps.size D, rfl, by omega, by omega, Lib.hid ⟨HR0.out.1, ⟨(doneAt_start (fun x hx => by
        obtain ⟨y, hy, rfl⟩ := (firstsH_mem l x).1 hx
        have h3 := (HD.out y.holder (H64.out y hy)).1
        exact h3.trans ((hasH_some l _).2 hx))).symm, fun x hx hlx => by
        have h3 := (HD.out x hx).1
        exact (hasH_some l x).1 (h3.symm.trans hlx)⟩, HR0.out.2⟩⟩
      case round =>
        obtain ⟨S, left, cnt, rfl, hS1, hS2, HI⟩ := hrel
        go_wp2_with (first | (at_next; refine wpList_next_ranges _ rfl _ rfl 3 intK.keyed hold (fun x : Int => Value.int .i64 x) (fun c : Value => c) key_inv hold_inv w.heap.size wo.heap.size l.length D left cnt rfl HI.out.1 ?_ ?_))
        · intro hc0 hl0
          have HQ : Hid (totH l e d = S) := Lib.hid (by rw [HI.out.2.1.sum, doneAt_end hl0]; rfl)
          go_wp2_with fail
          go_ret
          rw [HQ.out]
          exact ⟨rfl, HI.out.2.2⟩
        · intro x c kl y yb w1 cnt1 hkey hlx hRc hat hrg1 hlt1 hg1 hs1 hen
          obtain ⟨x', e1, rfl, hwf⟩ := Maps.keyOf_int_inv Tryz.underlying3 hkey
          obtain rfl : x = x' := by simpa using e1
          have hx64 := wf64.1 hwf
          have hxm := HI.out.2.1.keys x hx64 hlx
          have hstep := doneAt_step (l := l) (e := e) (d := d) hlx (firstsH_nodup l) hxm
          rw [← HI.out.2.1.sum] at hstep
          have hbd := doneAt_bd HB.out e d (firstsH l) (fun z => left z && !z.sameKey (.int .i64 x))
          rw [hstep] at hbd
          have hS3 : -1000000000000 ≤ S + atH l x e d := by omega
          have hS4 : S + atH l x e d ≤ 1000000000000 := by omega
          have HST := Lib.hid hstep
          have hk1 : Keeps w w1 := Below.grown HI.out.2.2 hg1 HI.out.2.2.size (fun j hj => by cases hj; exact Nat.le_trans HKW.out.size (Nat.le_refl _))
          have HK1 := Lib.hid hk1
          have HRG := Lib.hid hrg1
          have HLT := Lib.hid hlt1
          have hab := atH_bd HB.out x e d
          obtain ⟨ha1, ha2⟩ := hab
          clear hkey hlx hRc hat hrg1 hlt1 hg1 hs1 hwf hx64 hxm hstep hbd hk1 e1
          go_wp2_with (first | (go_at_call 111; refine (hat_any ao l cap b o x e d _ (HH.out.keeps HK1.out)).mono ?_; rintro en w2 ⟨rfl, hk2⟩; have HK2 := Lib.hid hk2; clear hk2))
          go_roundw
          case rel => exact ⟨_, _, cnt1, rfl, by omega, by omega, Lib.hid ⟨ranges_keeps HRG.out HK2.out, ⟨HST.out.symm, fun z hz hlz => HI.out.2.1.keys z hz (by
            simp only [Bool.and_eq_true] at hlz; exact hlz.1)⟩, HK1.out.trans HK2.out⟩⟩
          case measure =>
            rw [(ranges_keeps HRG.out HK2.out).left_eq, HI.out.1.left_eq]; exact HLT.out
end Go.Proofs.YtoaidbhiciaeaaaGreat

end
section
namespace Go.Proofs.YtoaidbhiciaeaaaGreat
open Go.RowKit
set_option linter.unusedSimpArgs false
set_option linter.unusedVariables false
def Hol.Ok (x : Hol) : Prop := I64 x.holder ∧ I64 x.entity ∧ I64 x.date ∧ I64 x.share
set_option maxRecDepth 100000 in
set_option maxHeartbeats 4000000 in
theorem hvalid_any (n : Int) (ao : Option Addr) (l : List Hol) (cap b o : Nat) (w : World) (H : Hols w ao l cap b o) (hlen : l.length ≤ 1000) (hok : ∀ x ∈ l, x.Ok) :
    Calls Tryz.prog 39 #[.int .i64 n, .slice ao l.length cap] w fun en w' => en = .returned (.bool (hvalidB n l)) ∧ Keeps w w' := by
  have hcap := Sl.cap H
  have hle := Sl.le H
  have HH := Lib.hid H
  have HO := Lib.hid hok
  have hmm := @run_makeMap Tryz.prog
  clear H hok
  by_cases hs : 1 ≤ n ∧ n ≤ 12 ∧ l.length ≤ 200
  · obtain ⟨h1, h2, h3⟩ := hs
    go_enter Tryz.func39, Tryz.ntmps39
    go_wp2_with fail
    go_loopw [26] (fun vi wr => ∃ k : Nat, k ≤ l.length ∧ vi = .int .i64 k ∧ Hid (∀ j < k, okH n l j = true) ∧ Hid (Keeps w wr ∧ VMap holK wr w.heap.size k (seenH (l.take k)))) (fun vi _ => l.length - (intOf vi).toNat)
    case atStart => exact ⟨0, Nat.zero_le _, rfl, Lib.hid (fun j hj => absurd hj (Nat.not_lt_zero _)), Lib.hid ⟨(Keeps.refl w).alloc _, by rw [List.take_zero, seenH_nil]; exact VMap.made holK w⟩⟩
    case round =>
      obtain ⟨k, hk, rfl, HN, HW⟩ := hrel
      by_cases hlt : k < l.length
      · have HL := HH.out.keeps HW.out.1
        have hix := Sl.at HL Tryz.underlying32 Tryz.sizeOf101 k hlt
        have c0 := HL.cell Hol.len k hlt 0 _ rfl
        have c1 := HL.cell Hol.len k hlt 1 _ rfl
        have c2 := HL.cell Hol.len k hlt 2 _ rfl
        have c3 := HL.cell Hol.len k hlt 3 _ rfl
        simp only [Nat.add_zero] at c0
        have hxo := HO.out _ (List.getElem_mem hlt)
        have hokk := okH_at (n := n) hlt
        have hkok : holK.ok (keyH l[k]) := ⟨hxo.1, hxo.2.1, hxo.2.2.1, (show I64 0 from ⟨by decide, by decide⟩)⟩
        obtain ⟨pr, hpr⟩ : ∃ pr, properB n l[k] = pr := ⟨_, rfl⟩
        rw [hpr] at hokk
        have HP : Hid (∀ W, Calls Tryz.prog 66 #[.int .i64 n, .agg #[.int .i64 l[k].holder, .int .i64 l[k].entity, .int .i64 l[k].date, .int .i64 l[k].share]] W fun en w' => en = .returned (.bool pr) ∧ Keeps W w') := Lib.hid (fun W => by have := properH_any n l[k] W; rw [hpr] at this; exact this)
        clear HL hxo hpr
        cases pr with
        | false =>
          have HQ := Lib.hid (hvalidB_bad hlt (hokk.trans (Bool.false_and _)))
          clear hokk
          go_wp2_with (go_at_call 66; refine (HP.out _).mono ?_; rintro en w1 ⟨rfl, hk1⟩; have x0 := hk1.cell (p := ⟨wr.heap.size + 1, 0, none⟩) (v := .int .i64 l[k].holder) (by go_simp); have x1 := hk1.cell (p := ⟨wr.heap.size + 1, 1, none⟩) (v := .int .i64 l[k].entity) (by go_simp); have x2 := hk1.cell (p := ⟨wr.heap.size + 1, 2, none⟩) (v := .int .i64 l[k].date) (by go_simp); have x3 := hk1.cell (p := ⟨wr.heap.size + 1, 3, none⟩) (v := .int .i64 0) (by go_simp); have HM1 : Hid (VMap holK w1 w.heap.size k (seenH (l.take k))) := Lib.hid (((HW.out.2.alloc _).alloc _).keeps hk1); have hlk : (Instr.lookup 136 (.map (some w.heap.size)) (.agg #[.int .i64 l[k].holder, .int .i64 l[k].entity, .int .i64 l[k].date, .int .i64 0]) false).run Tryz.prog w1 = .ok (.bool ((l.take k).any (fun a => sameH a l[k]))) w1 := (by have := HM1.out.look Tryz.underlying136 (fun w => Tryz.zeroValue4 w) hkok _ rfl; rw [seenH_get] at this; exact this); (try rw [HS.out] at hlk); have K1 := Lib.hid (((HW.out.1.alloc (.cells #[.int .i64 l[k].holder, .int .i64 l[k].entity, .int .i64 l[k].date, .int .i64 l[k].share] 101)).alloc (.cells #[.int .i64 l[k].holder, .int .i64 l[k].entity, .int .i64 l[k].date, .int .i64 0] 101)).trans hk1); clear hk1)
          go_ret
          rw [HQ.out]
          exact ⟨rfl, K1.out⟩
        | true =>
          cases hs : (l.take k).any (fun a => sameH a l[k]) with
          | true =>
            rw [hs] at hokk
            have HQ := Lib.hid (hvalidB_bad hlt hokk)
            have HS := Lib.hid hs
            clear hokk hs
            go_wp2_with (go_at_call 66; refine (HP.out _).mono ?_; rintro en w1 ⟨rfl, hk1⟩; have x0 := hk1.cell (p := ⟨wr.heap.size + 1, 0, none⟩) (v := .int .i64 l[k].holder) (by go_simp); have x1 := hk1.cell (p := ⟨wr.heap.size + 1, 1, none⟩) (v := .int .i64 l[k].entity) (by go_simp); have x2 := hk1.cell (p := ⟨wr.heap.size + 1, 2, none⟩) (v := .int .i64 l[k].date) (by go_simp); have x3 := hk1.cell (p := ⟨wr.heap.size + 1, 3, none⟩) (v := .int .i64 0) (by go_simp); have HM1 : Hid (VMap holK w1 w.heap.size k (seenH (l.take k))) := Lib.hid (((HW.out.2.alloc _).alloc _).keeps hk1); have hlk : (Instr.lookup 136 (.map (some w.heap.size)) (.agg #[.int .i64 l[k].holder, .int .i64 l[k].entity, .int .i64 l[k].date, .int .i64 0]) false).run Tryz.prog w1 = .ok (.bool ((l.take k).any (fun a => sameH a l[k]))) w1 := (by have := HM1.out.look Tryz.underlying136 (fun w => Tryz.zeroValue4 w) hkok _ rfl; rw [seenH_get] at this; exact this); (try rw [HS.out] at hlk); have K1 := Lib.hid (((HW.out.1.alloc (.cells #[.int .i64 l[k].holder, .int .i64 l[k].entity, .int .i64 l[k].date, .int .i64 l[k].share] 101)).alloc (.cells #[.int .i64 l[k].holder, .int .i64 l[k].entity, .int .i64 l[k].date, .int .i64 0] 101)).trans hk1); clear hk1)
            go_ret
            rw [HQ.out]
            exact ⟨rfl, K1.out⟩
          | false =>
            rw [hs] at hokk
            have HOK := Lib.hid hokk
            have HS := Lib.hid hs
            clear hokk hs
            go_wp2_with (first | (go_at_call 66; refine (HP.out _).mono ?_; rintro en w1 ⟨rfl, hk1⟩; have x0 := hk1.cell (p := ⟨wr.heap.size + 1, 0, none⟩) (v := .int .i64 l[k].holder) (by go_simp); have x1 := hk1.cell (p := ⟨wr.heap.size + 1, 1, none⟩) (v := .int .i64 l[k].entity) (by go_simp); have x2 := hk1.cell (p := ⟨wr.heap.size + 1, 2, none⟩) (v := .int .i64 l[k].date) (by go_simp); have x3 := hk1.cell (p := ⟨wr.heap.size + 1, 3, none⟩) (v := .int .i64 0) (by go_simp); have HM1 : Hid (VMap holK w1 w.heap.size k (seenH (l.take k))) := Lib.hid (((HW.out.2.alloc _).alloc _).keeps hk1); have hlk : (Instr.lookup 136 (.map (some w.heap.size)) (.agg #[.int .i64 l[k].holder, .int .i64 l[k].entity, .int .i64 l[k].date, .int .i64 0]) false).run Tryz.prog w1 = .ok (.bool ((l.take k).any (fun a => sameH a l[k]))) w1 := (by have := HM1.out.look Tryz.underlying136 (fun w => Tryz.zeroValue4 w) hkok _ rfl; rw [seenH_get] at this; exact this); (try rw [HS.out] at hlk); have K1 := Lib.hid (((HW.out.1.alloc (.cells #[.int .i64 l[k].holder, .int .i64 l[k].entity, .int .i64 l[k].date, .int .i64 l[k].share] 101)).alloc (.cells #[.int .i64 l[k].holder, .int .i64 l[k].entity, .int .i64 l[k].date, .int .i64 0] 101)).trans hk1); clear hk1) | (refine wpList_vstore (K := holK) rfl _ _ _ 136 rfl Tryz.underlying136 w.heap.size k rfl HM1.out (by unfold maxLen; omega) (keyH l[k]) hkok rfl (.bool true) rfl (seenH (l.take (k + 1))) (by rw [take_snoc _ _ hlt]; exact (seenH_snoc _ _).1) (fun d _ hd => by rw [take_snoc _ _ hlt]; exact (seenH_snoc _ _).2 d hd) ?_; intro w4 hm4 hg4; have HX : Hid (Keeps w w4 ∧ VMap holK w4 w.heap.size (k + 1) (seenH (l.take (k + 1)))) := Lib.hid ⟨Below.grown K1.out hg4 K1.out.size (fun j hj => by cases hj; exact Nat.le_refl _), hm4⟩; clear hm4 hg4))
            go_roundw
            case rel => exact ⟨k + 1, by omega, by go_num, Lib.hid (fun j hj => by
              rcases Nat.lt_succ_iff_lt_or_eq.1 hj with h | rfl
              · exact HN.out j h
              · exact HOK.out), HX⟩
            case measure => simp [intOf]; omega
      · obtain rfl : k = l.length := by omega
        have HR := Lib.hid (hvalidB_rest h1 h2 h3 HN.out)
        have hpr := okH_proper HN.out
        have HPR := Lib.hid hpr
        have HT : Hid (∀ (e d : Int) W, Hols W ao l cap b o → Calls Tryz.prog 68 #[.slice ao l.length cap, .int .i64 e, .int .i64 d] W fun en w' => en = .returned (.int .i64 (totH l e d)) ∧ Keeps W w') := Lib.hid (fun e d W h => total_any ao l cap b o e d W h hlen (ShB.of hpr) (fun x hx => (HO.out x hx).1))
        have HKW := Lib.hid HW.out.1
        clear hpr HW HN
        go_wp2_with (go_at_call 67; refine (hdates_any ao l cap b o _ (HH.out.keeps HKW.out) hlen (fun x hx => (HO.out x hx).2.2.1)).mono ?_; rintro en w2 ⟨v, xs, rfl, ⟨ao3, cap3, b3, o3, rfl, hs3⟩, hd, hk2⟩; have HD := Lib.hid hd; have HS3 := Lib.hid hs3; have HK2 := Lib.hid (HKW.out.trans hk2); have hcap3 := hs3.cap; have hle3 := hs3.le; clear hd hs3 hk2)
        go_loopw [47] (fun vi wy => ∃ j : Nat, j ≤ xs.length ∧ vi = .int .i64 j ∧ Hid (∀ i (hi : i < xs.length), i < j → ∀ e : Int, 0 ≤ e → e < n → totH l e xs[i] ≤ 10000) ∧ Hid (Keeps w2 wy)) (fun vi _ => xs.length - (intOf vi).toNat)
        case atStart => exact ⟨0, Nat.zero_le _, rfl, Lib.hid (fun i _ h => absurd h (Nat.not_lt_zero _)), Lib.hid (Keeps.refl w2)⟩
        case round =>
          obtain ⟨j, hj, rfl, HJ, HY⟩ := hrel
          obtain ⟨wo, rfl⟩ : ∃ wo : World, wo = wr := ⟨_, rfl⟩
          by_cases hjl : j < xs.length
          · have hSj := HS3.out.keeps HY.out
            have hix3 := hSj.at1 Tryz.underlying69 Tryz.sizeOf3 j hjl
            have d0 := hSj.int j hjl
            clear hSj
            go_wp2_with fail
            go_loopw [52] (fun ve wz => ∃ e : Nat, (e : Int) ≤ n ∧ ve = .int .i64 e ∧ Hid (∀ a : Int, 0 ≤ a → a < (e : Int) → totH l a xs[j] ≤ 10000) ∧ Hid (Keeps wo wz)) (fun ve _ => (n - intOf ve).toNat)
            case atStart => exact ⟨0, by omega, rfl, Lib.hid (fun a h1 h2 => by omega), Lib.hid (Keeps.refl wo)⟩
            case round =>
              obtain ⟨e, he, rfl, HE, HZ⟩ := hrel
              by_cases hen : (e : Int) < n
              · by_cases ht : totH l e xs[j] ≤ 10000
                · have ht2 : decide (10000 < totH l (e : Int) xs[j]) = false := decide_eq_false (by omega)
                  have HE2 : Hid (∀ a : Int, 0 ≤ a → a < ((e + 1 : Nat) : Int) → totH l a xs[j] ≤ 10000) := Lib.hid (fun a h1 h2 => by
                    by_cases hae : a = (e : Int)
                    · rw [hae]; exact ht
                    · exact HE.out a h1 (by omega))
                  clear ht
                  go_wp2_with (go_at_call 68; refine (HT.out _ _ _ (HH.out.keeps (HK2.out.trans (HY.out.trans HZ.out)))).mono ?_; rintro en w5 ⟨rfl, hk5⟩; have HZ5 := Lib.hid (HZ.out.trans hk5); clear hk5)
                  go_roundw
                  case rel => exact ⟨e + 1, by omega, by go_num, HE2, HZ5⟩
                  case measure => simp [intOf]; omega
                · have ht2 : decide (10000 < totH l (e : Int) xs[j]) = true := decide_eq_true (by omega)
                  have HQ := Lib.hid (HR.out.trans (sums_bad ht))
                  clear ht
                  go_wp2_with (go_at_call 68; refine (HT.out _ _ _ (HH.out.keeps (HK2.out.trans (HY.out.trans HZ.out)))).mono ?_; rintro en w5 ⟨rfl, hk5⟩; have HZ5 := Lib.hid (HZ.out.trans hk5); clear hk5)
                  go_ret
                  rw [HQ.out]
                  exact ⟨rfl, HK2.out.trans (HY.out.trans HZ5.out)⟩
              · have hee : (e : Int) = n := by omega
                have HJ2 : Hid (∀ i (hi : i < xs.length), i < j + 1 → ∀ e : Int, 0 ≤ e → e < n → totH l e xs[i] ≤ 10000) := Lib.hid (fun i hi hij a ha hb => by
                  rcases Nat.lt_succ_iff_lt_or_eq.1 hij with h | rfl
                  · exact HJ.out i hi h a ha hb
                  · exact HE.out a ha (by omega))
                clear hee
                go_wp2_with fail
                go_roundw
                case rel => exact ⟨j + 1, by omega, by go_num, HJ2, Lib.hid (HY.out.trans HZ.out)⟩
                case measure => simp [intOf]; omega
          · obtain rfl : j = xs.length := by omega
            have HQ := Lib.hid (HR.out.trans (sums_good (fun x hx => by
              have hp := properB_true (HPR.out x hx)
              obtain ⟨i, hi, hie⟩ := List.getElem_of_mem ((HD.out.2 x.date).2 ⟨x, hx, rfl⟩)
              rw [← hie]
              exact HJ.out i hi hi x.entity hp.2.2.1 hp.2.2.2.1)))
            go_wp2_with fail
            go_ret
            rw [HQ.out]
            exact ⟨rfl, HK2.out.trans HY.out⟩
  · have HQ := Lib.hid (hvalidB_size (n := n) (l := l) hs)
    by_cases h1 : n < 1
    · go_enter Tryz.func39, Tryz.ntmps39
      go_wp2
      go_ret
      rw [HQ.out]
      exact ⟨rfl, Keeps.refl w⟩
    · by_cases h2 : 12 < n
      · go_enter Tryz.func39, Tryz.ntmps39
        go_wp2
        go_ret
        rw [HQ.out]
        exact ⟨rfl, Keeps.refl w⟩
      · have h3 : 200 < l.length := by omega
        clear hs
        go_enter Tryz.func39, Tryz.ntmps39
        go_wp2
        go_ret
        rw [HQ.out]
        exact ⟨rfl, Keeps.refl w⟩
end Go.Proofs.YtoaidbhiciaeaaaGreat

end
