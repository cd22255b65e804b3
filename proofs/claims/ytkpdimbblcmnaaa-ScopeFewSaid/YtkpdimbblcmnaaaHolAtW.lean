/- holding.At: the walk. -/
import Derived.Test.YtkpdimbblcmnaaaHolPairW
namespace Go.Proofs.Ytkpdimbblcmnaaa
open Go.RowKit Go.Shelf
attribute [local go_sem] Oper.semAt_some
set_option linter.unusedSimpArgs false
set_option linter.unusedVariables false

/-- A block that holds a holding. -/
def Box4 (W : World) (B : Nat) (x : Hol) : Prop := W.heap[B]? = some (.cells #[.int .i64 x.holder, .int .i64 x.entity, .int .i64 x.date, .int .i64 x.share] 46 (0, 0))
theorem Box4.new (W : World) (x : Hol) : Box4 (W.alloc (.cells #[.int .i64 x.holder, .int .i64 x.entity, .int .i64 x.date, .int .i64 x.share] 46)) W.heap.size x := World.alloc_heap_new W _
theorem Box4.own {X Y : World} {row : Option Nat} {B : Nat} {x : Hol} (h : Box4 X B x) (hg : X.grownBy Y row) (hr : ∀ r, row = some r → ∃ o : Obj, X.heap[r]? = some o ∧ o.isCells = false) : Box4 Y B x := by
  refine (hg.block B (Array.getElem?_eq_some_iff.1 h).1 (fun e => ?_)).trans h
  obtain ⟨o, ho, hc⟩ := hr B e.symm
  rw [show X.heap[B]? = _ from h] at ho
  cases ho; cases hc
theorem Box4.cells {W : World} {B : Nat} {x : Hol} (h : Box4 W B x) : W.cell? ⟨B, 0, none⟩ = some (.int .i64 x.holder) ∧ W.cell? ⟨B, 1, none⟩ = some (.int .i64 x.entity) ∧ W.cell? ⟨B, 2, none⟩ = some (.int .i64 x.date) ∧ W.cell? ⟨B, 3, none⟩ = some (.int .i64 x.share) := by
  refine ⟨?_, ?_, ?_, ?_⟩ <;> simp [World.cell?, show W.heap[B]? = _ from h]
/-- What the boxes of a call of At hold. -/
def AtI (w : World) (N : Nat) (d : Int) (c : Option Hol) (W : World) : Prop :=
  ((Boxed W (w.heap.size + 1) 3 (.int .i64 (shareOf c)) ∧ Boxed W (w.heap.size + 1 + 1) 3 (.int .i64 (sinceOf c))) ∧ (Boxed W (w.heap.size + 1 + 1 + 1) 4 (.bool c.isSome) ∧ Boxed W w.heap.size 3 (.int .i64 d))) ∧ (Below w.heap.size w W ∧ N ≤ W.heap.size)
theorem three {w W : World} {N : Nat} {d : Int} {c c' : Option Hol} (hI : AtI w N d c W) (x : Hol) (hN : w.heap.size + 7 ≤ N) (hc : c' = some x) :
    KeepsFrom N W (((W.setCell ⟨w.heap.size + 1, 0, none⟩ (.int .i64 x.share)).setCell ⟨w.heap.size + 1 + 1, 0, none⟩ (.int .i64 x.date)).setCell ⟨w.heap.size + 1 + 1 + 1, 0, none⟩ (.bool true)).drew ∧
    KeepBut N (w.heap.size + 1) (w.heap.size + 1 + 1 + 1 + 1) W (((W.setCell ⟨w.heap.size + 1, 0, none⟩ (.int .i64 x.share)).setCell ⟨w.heap.size + 1 + 1, 0, none⟩ (.int .i64 x.date)).setCell ⟨w.heap.size + 1 + 1 + 1, 0, none⟩ (.bool true)).drew ∧
    AtI w N d c' (((W.setCell ⟨w.heap.size + 1, 0, none⟩ (.int .i64 x.share)).setCell ⟨w.heap.size + 1 + 1, 0, none⟩ (.int .i64 x.date)).setCell ⟨w.heap.size + 1 + 1 + 1, 0, none⟩ (.bool true)).drew := by
  subst hc
  obtain ⟨⟨⟨b1, b2⟩, ⟨b3, b4⟩⟩, ⟨hb, hn⟩⟩ := hI
  have n1 : w.heap.size + 1 ≠ w.heap.size + 1 + 1 := by omega
  have n2 : w.heap.size + 1 ≠ w.heap.size + 1 + 1 + 1 := by omega
  have n3 : w.heap.size + 1 + 1 ≠ w.heap.size + 1 + 1 + 1 := by omega
  have n4 : w.heap.size ≠ w.heap.size + 1 := by omega
  have n5 : w.heap.size ≠ w.heap.size + 1 + 1 := by omega
  have n6 : w.heap.size ≠ w.heap.size + 1 + 1 + 1 := by omega
  refine ⟨((((KeepsOthers.setCell W _ _).trans (KeepsOthers.setCell _ _ _)).trans (KeepsOthers.setCell _ _ _)).trans (KeepsOthers.drew _)).from _,
    (((((KeepBut.refl N _ _ W).setCell (p := ⟨w.heap.size + 1, 0, none⟩) (by first | (simp; done) | (simp; omega)) (by first | (simp; done) | (simp; omega)) _).setCell (p := ⟨w.heap.size + 1 + 1, 0, none⟩) (by first | (simp; done) | (simp; omega)) (by first | (simp; done) | (simp; omega)) _).setCell (p := ⟨w.heap.size + 1 + 1 + 1, 0, none⟩) (by first | (simp; done) | (simp; omega)) (by first | (simp; done) | (simp; omega)) _).drew),
    ⟨⟨⟨((b1.set _).other n1 _).other n2 _, ((b2.other n1.symm _).set _).other n3 _⟩, ⟨((b3.other n2.symm _).other n3.symm _).set _, ((b4.other n4 _).other n5 _).other n6 _⟩⟩, ⟨(((hb.setCell (p := ⟨w.heap.size + 1, 0, none⟩) (by simp) _).setCell (p := ⟨w.heap.size + 1 + 1, 0, none⟩) (by simp; omega) _).setCell (p := ⟨w.heap.size + 1 + 1 + 1, 0, none⟩) (by simp; omega) _).drew, by simpa [World.setCell, World.drew] using hn⟩⟩⟩
set_option maxRecDepth 100000 in
set_option maxHeartbeats 4000000 in
theorem at_in (F : Fence) (n : Nat) (h1 : F.fn 56) (h2 : F.fn 63) (h3 : F.fn 67) (hro : F.round = none) (hn : 4 ≤ n) (ao : Option Addr) (xs : List Hol) (cap b o : Nat) (h e d : Int) (w : World) (H : Hols w ao xs cap b o) :
    CallsIn F n Try.prog 56 #[.slice ao xs.length cap, .int .i64 h, .int .i64 e, .int .i64 d] w fun en w' => en = .returned (.int .i64 (atH xs h e d)) ∧ Keeps w w' := by
  have hn1 : 1 ≤ n := by omega
  have HH := Lib.hid H
  clear H
  refine callsIn_of_wp_marks Try.func56 rfl h1 ?_ hro
  simp only [Try.ntmps56, List.size_toArray, List.length_cons, List.length_nil, Nat.reduceAdd, Nat.reduceSub, Array.replicate_succ, Array.replicate_zero, List.push_toArray, List.append_toArray, List.nil_append, List.cons_append]
  gi_wp2_with (gi_at_call 63; refine (pair_in F (n - 1) h2 hro _ _ _ _ _ _).mono ?_; rintro en w' ⟨rfl, rfl⟩)
  have bD := ((((((Boxed.new w 3 (.int .i64 d)).alloc (.cells #[.int .i64 0] 3)).alloc (.cells #[.int .i64 0] 3)).alloc (.cells #[.bool false] 4)).alloc (.cells #[.slice ao xs.length cap] 23)).alloc (.cells #[.int .i64 h] 3)).alloc (.cells #[.int .i64 e] 3)
  have bS := (((((Boxed.new (w.alloc (.cells #[.int .i64 d] 3)) 3 (.int .i64 0)).alloc (.cells #[.int .i64 0] 3)).alloc (.cells #[.bool false] 4)).alloc (.cells #[.slice ao xs.length cap] 23)).alloc (.cells #[.int .i64 h] 3)).alloc (.cells #[.int .i64 e] 3)
  have bT := ((((Boxed.new ((w.alloc (.cells #[.int .i64 d] 3)).alloc (.cells #[.int .i64 0] 3)) 3 (.int .i64 0)).alloc (.cells #[.bool false] 4)).alloc (.cells #[.slice ao xs.length cap] 23)).alloc (.cells #[.int .i64 h] 3)).alloc (.cells #[.int .i64 e] 3)
  have bF := (((Boxed.new (((w.alloc (.cells #[.int .i64 d] 3)).alloc (.cells #[.int .i64 0] 3)).alloc (.cells #[.int .i64 0] 3)) 4 (.bool false)).alloc (.cells #[.slice ao xs.length cap] 23)).alloc (.cells #[.int .i64 h] 3)).alloc (.cells #[.int .i64 e] 3)
  simp only [World.size_alloc] at bS bT bF
  have hB0 : Keeps w (((((((w.alloc (.cells #[.int .i64 d] 3)).alloc (.cells #[.int .i64 0] 3)).alloc (.cells #[.int .i64 0] 3)).alloc (.cells #[.bool false] 4)).alloc (.cells #[.slice ao xs.length cap] 23)).alloc (.cells #[.int .i64 h] 3)).alloc (.cells #[.int .i64 e] 3)) := (((((((Keeps.refl w).alloc _).alloc _).alloc _).alloc _).alloc _).alloc _).alloc _
  have hsz : ((((((((w.alloc (.cells #[.int .i64 d] 3)).alloc (.cells #[.int .i64 0] 3)).alloc (.cells #[.int .i64 0] 3)).alloc (.cells #[.bool false] 4)).alloc (.cells #[.slice ao xs.length cap] 23)).alloc (.cells #[.int .i64 h] 3)).alloc (.cells #[.int .i64 e] 3))).heap.size = w.heap.size + 7 := by simp
  have hG : PairG (((((((w.alloc (.cells #[.int .i64 d] 3)).alloc (.cells #[.int .i64 0] 3)).alloc (.cells #[.int .i64 0] 3)).alloc (.cells #[.bool false] 4)).alloc (.cells #[.slice ao xs.length cap] 23)).alloc (.cells #[.int .i64 h] 3)).alloc (.cells #[.int .i64 e] 3)) (w.heap.size + 1 + 1 + 1 + 1) ao xs cap b o h e := ⟨by go_simp, by go_simp, by go_simp, HH.out.keeps hB0⟩
  obtain ⟨W0, hW0⟩ : ∃ W0, (((((((w.alloc (.cells #[.int .i64 d] 3)).alloc (.cells #[.int .i64 0] 3)).alloc (.cells #[.int .i64 0] 3)).alloc (.cells #[.bool false] 4)).alloc (.cells #[.slice ao xs.length cap] 23)).alloc (.cells #[.int .i64 h] 3)).alloc (.cells #[.int .i64 e] 3)) = W0 := ⟨_, rfl⟩
  rw [hW0] at bD bS bT bF hB0 hsz hG ⊢
  have hs1 : w.heap.size + 7 ≤ W0.heap.size := by omega
  have hs2 : W0.heap.size ≤ w.heap.size + 7 := by omega
  clear hW0 hsz
  have hbw : xs.length ≠ 0 → b < w.heap.size := fun hne => by
    have hc := HH.out.cell Hol.len 0 (by omega) 0 _ rfl
    exact World.block_lt_of_cell? _ _ hc
  refine wpIn_rangeFunc_ownH hro hn1 (gf := 67) (lb := #[.pointer (some ⟨w.heap.size + 1 + 1 + 1 + 1, 0, none⟩), .pointer (some ⟨w.heap.size + 1 + 1 + 1 + 1 + 1, 0, none⟩), .pointer (some ⟨w.heap.size + 1 + 1 + 1 + 1 + 1 + 1, 0, none⟩)]) rfl h3 (enters_of Try.func67 (by kernel_rfl) rfl)
    (pair_stops F (n - 1) h3 hro (by omega) (w.heap.size + 1 + 1 + 1 + 1) (w.heap.size + 1) (w.heap.size + 1 + 1 + 1 + 1) ao xs cap b o h e W0 (by omega) (by omega) (fun hne => by have := hbw hne; omega) (fun hne => by have := hbw hne; omega) hG)
    (fun h k => h.trans k) (fun W l o o' hl _ _ _ => KeepBut.putObj W l o' hl) (Below.refl _ _) (fun _ => rfl)
    (fun pre W => ((Boxed W (w.heap.size + 1) 3 (.int .i64 (shareOf (curH d pre))) ∧ Boxed W (w.heap.size + 1 + 1) 3 (.int .i64 (sinceOf (curH d pre)))) ∧ (Boxed W (w.heap.size + 1 + 1 + 1) 4 (.bool (curH d pre).isSome) ∧ Boxed W w.heap.size 3 (.int .i64 d))) ∧ (Below w.heap.size w W ∧ W0.heap.size ≤ W.heap.size))
    (fun _ _ _ => False)
    (OwnFrom.and (OwnFrom.and (OwnFrom.and (Own.from (boxed_own _ _ _) _) (Own.from (boxed_own _ _ _) _)) (OwnFrom.and (Own.from (boxed_own _ _ _) _) (Own.from (boxed_own _ _ (fun _ => Value.int .i64 d)) _))) (OwnFrom.and (ownFrom_below (Nat.le_refl _) (by omega)) (fun s X Y row hs hg hr => Nat.le_trans hs hg.size)))
    (fun _ _ _ _ _ hs _ _ => hs)
    ⟨⟨⟨bS, bT⟩, ⟨bF, bD⟩⟩, ⟨hB0, Nat.le_refl _⟩⟩
    (fun x a' W => ∃ Bx, w.heap.size + 1 + 1 + 1 < Bx ∧ Box4 W Bx x ∧ a' = { tmps := #[.slice ao xs.length cap, .int .i64 h, .int .i64 e, .int .i64 d, undef, undef, undef, .pointer (some ⟨w.heap.size, 0, none⟩), .int .i64 0, .pointer (some ⟨w.heap.size + 1, 0, none⟩), .pointer (some ⟨w.heap.size + 1 + 1, 0, none⟩), .pointer (some ⟨w.heap.size + 1 + 1 + 1, 0, none⟩), .pointer (some ⟨Bx, 0, none⟩), .slice ao xs.length cap, .int .i64 h, .int .i64 e, .func (.func 67) #[] #[.pointer (some ⟨w.heap.size + 1 + 1 + 1 + 1, 0, none⟩), .pointer (some ⟨w.heap.size + 1 + 1 + 1 + 1 + 1, 0, none⟩), .pointer (some ⟨w.heap.size + 1 + 1 + 1 + 1 + 1 + 1, 0, none⟩)], .agg #[.int .i64 x.holder, .int .i64 x.entity, .int .i64 x.date, .int .i64 x.share], undef, undef, undef, undef, undef, undef, undef, undef, undef, undef, undef, undef, undef, undef, undef, undef, undef, undef, undef], defers := [] })
    (fun x a' _ X Y row hs hg hr => by obtain ⟨Bx, h1, h2, h3⟩ := hs; exact ⟨Bx, h1, h2.own hg (fun r e => (hr r e).2), h3⟩)
    ?assign ?body ?done ?stop
  case assign =>
    rintro l pre x W K ⟨⟨⟨bS1, bT1⟩, ⟨bF1, bD1⟩⟩, ⟨hB1, hN1⟩⟩ hK
    gi_wp2
    exact hK _ _ ((KeepsOthers.alloc _ _).from _) ((KeepBut.refl _ _ _ W).alloc hN1 _) ⟨⟨⟨bS1.alloc _, bT1.alloc _⟩, ⟨bF1.alloc _, bD1.alloc _⟩⟩, ⟨hB1.alloc hB1.size _, by simp; omega⟩⟩ ⟨W.heap.size, bF1.lt, Box4.new W x, rfl⟩
  case body =>
    rintro l pre x a' W hl ⟨r, hr⟩ ⟨⟨⟨bS1, bT1⟩, ⟨bF1, bD1⟩⟩, ⟨hB1, hN1⟩⟩ ⟨Bx, hBx, bX, rfl⟩ hlt
    obtain ⟨x0, x1, x2, x3⟩ := bX.cells
    have hbx := (Array.getElem?_eq_some_iff.1 bX).1
    have cS := bS1.cell
    have cT := bT1.cell
    have cF := bF1.cell
    have cD := bD1.cell
    have fS := bS1.frozen
    have fT := bT1.frozen
    have fF := bF1.frozen
    have HI := Lib.hid (And.intro (And.intro (And.intro bS1 bT1) (And.intro bF1 bD1)) (And.intro hB1 hN1))
    clear bS1 bT1 bF1 bD1 hB1 hN1 bX hr
    have hmx : Try.prog.follows .mixedOrders = true := by kernel_rfl
    by_cases hd : x.date ≤ d
    · cases hc : curH d pre with
      | none =>
        have HC := Lib.hid (curH_first hd hc)
        rw [hc] at cS cT cF
        simp only [shareOf, sinceOf, Option.isSome_none] at cS cT cF
        clear hc
        gi_wp2
        gi_region_with_o (fail)
        all_goals gi_wp2
        all_goals (try go_bits)
        all_goals (exact three HI.out x hs1 HC.out)
      | some m =>
        by_cases hm : m.date < x.date
        · have HC := Lib.hid (curH_new hd hc hm)
          rw [hc] at cS cT cF
          simp only [shareOf, sinceOf, Option.isSome_some] at cS cT cF
          clear hc
          gi_wp2
          gi_region_with_o (fail)
          all_goals gi_wp2
          all_goals (try go_bits)
          all_goals (exact three HI.out x hs1 HC.out)
        · have HC := Lib.hid ((curH_old hd hc hm).trans hc.symm)
          rw [hc] at cS cT cF
          simp only [shareOf, sinceOf, Option.isSome_some] at cS cT cF
          clear hc
          gi_wp2
          exact ⟨KeepsFrom.refl _ _, KeepBut.refl _ _ _ _, by show AtI w _ d (curH d (pre ++ [x])) W; rw [HC.out]; exact HI.out⟩
    · have HC := Lib.hid (curH_late (l := pre) hd)
      gi_wp2
      exact ⟨KeepsFrom.refl _ _, KeepBut.refl _ _ _ _, by show AtI w _ d (curH d (pre ++ [x])) W; rw [HC.out]; exact HI.out⟩
  case done =>
    rintro D ys W hD rfl ⟨⟨⟨bS1, bT1⟩, ⟨bF1, bD1⟩⟩, ⟨hB1, hN1⟩⟩ hK
    have cS := bS1.cell
    gi_wp2
    refine ⟨by simp, .inl ⟨_, _, rfl, run_takeDeferred hK, ?_⟩⟩
    exact ⟨_, results_tmp rfl _ _ _, rfl, hB1.trans (belowK_b (w := w) (Nat.le_refl _) W D _ _ (by omega) hK rfl rfl)⟩
  case stop =>
    rintro D c pre W _ _ h _
    exact h.elim
theorem hat_any (ao : Option Addr) (xs : List Hol) (cap b o : Nat) (h e d : Int) (w : World) (H : Hols w ao xs cap b o) :
    Calls Try.prog 56 #[.slice ao xs.length cap, .int .i64 h, .int .i64 e, .int .i64 d] w fun en w' => en = .returned (.int .i64 (atH xs h e d)) ∧ Keeps w w' :=
  (callsIn_wide (n := 4)).1 (at_in Fence.wide 4 trivial trivial trivial rfl (by omega) ao xs cap b o h e d w H)
end Go.Proofs.Ytkpdimbblcmnaaa
