/- The keys of a map of pairs: maps.Keys' iterator, slices.AppendSeq, slices.Collect: the walks. -/
import Derived.Test.YtfddhmhagijodaaPrK
import Derived.Shelf.Abstract
import Derived.Shelf.RegionOpen
import Derived.WalkKit
import Derived.OwnWalkIn
import Derived.TacticsInMore
import Derived.LoopNIn
import Derived.LoopIn
import Derived.Outline
import Derived.RangeFuncNested
import Derived.RangeFuncBound
import Derived.RangeFuncCalls
import Derived.RangeFuncLeaves
import Derived.RangeFuncBox
import Derived.Maps.RangeWalk
import Derived.Sort.MapsRangeIn
import Derived.Test.YtfddhmhagijodaaProg
namespace Go.Proofs.Ytfddhmhagijodaa
open Go.RowKit Go.Shelf Go.Maps
attribute [local go_sem] Oper.semAt_some
set_option linter.unusedSimpArgs false
set_option linter.unusedVariables false

theorem ranges_keepsP {P : Program} {k : TypeId} {w w' : World} {b r n : Nat} {D : DataW Value} {left : Lit → Bool} {cnt : Nat} (h : w.ranges P k hold b r n D left cnt) (hk : Keeps w w') : w'.ranges P k hold b r n D left cnt := by
  obtain ⟨es, clock, since, seen, c0, hb, F, hs, hD, hr, rest⟩ := h
  exact ⟨es, clock, since, seen, c0, (hk.block b (Array.getElem?_eq_some_iff.1 hb).1).trans hb, F, hs, hD, (hk.block r (Array.getElem?_eq_some_iff.1 hr).1).trans hr, rest⟩
/-- What the keys of a map are, in some order. -/
def KeysP (D : DataW Value) (ss : List Pr) : Prop := ss.Nodup ∧ (∀ x ∈ ss, x.Ok) ∧ ∀ x : Pr, x.Ok → (x ∈ ss ↔ Maps.has D (prLit x) = true)
abbrev keysF : Nat := 55
theorem keysP_any (mb : Option Nat) (w : World) : Calls Try.prog 40 #[.map mb] w fun e w' => e = .returned (.func (.func 55) #[] #[.pointer (some ⟨w.heap.size, 0, none⟩)]) ∧ w.alloc (.cells #[.map mb] 92) = w' := by
  go_enter Try.func40, Try.ntmps40
  go_wp2_with fail
  go_ret
  exact ⟨rfl, rfl⟩
set_option maxRecDepth 100000 in
set_option maxHeartbeats 2000000 in
theorem keysP1_in (F : Fence) (n : Nat) (h1 : F.fn 55) (hro : F.round = none) (hn : 1 ≤ n) (l Bm b nn : Nat) (D : DataW Value) (J Jx : List Pr → World → Prop)
    (hY : ∀ pre x W, J pre W → pre.length < Maps.size D → YieldAt F (n - 1) Try.prog l #[.agg #[.int .i64 x.a, .int .i64 x.b]] W fun en W' =>
      (en = .returned (.bool true) ∧ J (pre ++ [x]) W' ∧ KeepsWalks W W') ∨ (en = .returned (.bool false) ∧ Jx (pre ++ [x]) W'))
    (W : World) (hJ : AbidesFrom W.heap.size J) (hm : W.cell? ⟨Bm, 0, none⟩ = some (.map (some b))) (hown : W.ownsMap Try.prog 66 hold b nn D) (h0 : J [] W) :
    CallsIn F n Try.prog 55 #[.func (.yield l) #[] #[], .pointer (some ⟨Bm, 0, none⟩)] W fun en W' => (∃ v, en = .returned v) ∧
      ((∃ ys, KeysP D ys ∧ J ys W') ∨ (∃ pre, True ∧ Jx pre W')) := by
  have HJ := Lib.hid hJ
  have HY := Lib.hid hY
  clear hJ hY
  refine callsIn_of_wp Try.func55 rfl h1 ?_ hro
  simp only [Try.ntmps55, List.size_toArray, List.length_cons, List.length_nil, Nat.reduceAdd, Nat.reduceSub, Array.replicate_succ, Array.replicate_zero, List.push_toArray, List.append_toArray, List.nil_append, List.cons_append]
  gi_wp2_with (first
    | (gi_at_range; refine wpListIn_range_own _ rfl _ 92 rfl 66 4 prKeyed Try.underlying92 hold b nn D rfl hown ?_; intro w0 hrg0 hg0 hs0)
    | gi_in)
  go_frame
  gi_loopw [3] (fun _ wr => ∃ (left : Lit → Bool) (cnt : Nat) (ss : List Pr), Hid (wr.ranges Try.prog 66 hold b W.heap.size nn D left cnt ∧ ss.length + cnt ≤ Maps.size D ∧ CollP D left ss ∧ J ss wr))
    (fun _ wr => wr.rangeLeft b W.heap.size)
  case atStart => exact ⟨_, _, [], Lib.hid ⟨hrg0, by simp, CollP.start D, HJ.out [] W w0 none h0 hg0 (fun r e => by cases e)⟩⟩
  case round =>
    obtain ⟨left, cnt, ss, HR⟩ := hrel
    have hrg := HR.out.1
    gi_wp2_with (first
      | (gi_at_next; refine wpListIn_next_ranges _ rfl _ rfl 66 prKeyed hold (fun x : Pr => Value.agg #[.int .i64 x.a, .int .i64 x.b]) (fun c : Value => c) (fun key kl hk => by obtain ⟨x, hx, _⟩ := keyOf_pr_inv hk; exact ⟨x, hx⟩) (fun v _ _ => ⟨v, rfl⟩) b W.heap.size nn D left cnt rfl hrg ?_ ?_)
      | gi_in)
    · intro hc0 hl0
      have HD := Lib.hid (HR.out.2.2.1.done hl0)
      gi_wp2
      go_end0
      exact ⟨⟨_, rfl⟩, .inl ⟨ss, HD.out, HR.out.2.2.2⟩⟩
    · intro x c kl yd yp w2 cnt2 hkey hlk hv hat hrg2 hlt hg2 hs2 hen
      obtain ⟨x', ex, hxok, rfl⟩ := keyOf_pr_inv hkey
      obtain rfl : x = x' := by
        obtain ⟨a, b⟩ := x
        obtain ⟨c, d⟩ := x'
        simpa using ex
      have hJ2 : J ss w2 := HJ.out ss wr w2 (some W.heap.size) HR.out.2.2.2 hg2 (fun r e => by cases e; exact ⟨Nat.le_refl _, hrg.iter_walk⟩)
      have hJ3 : J ss (w2.alloc (.cells #[.int .i64 x.a, .int .i64 x.b] 66)) := HJ.out _ _ _ none hJ2 (World.grownBy_alloc w2 _ none) (fun r e => by cases e)
      have HRG := Lib.hid (ranges_keepsP hrg2 ((Keeps.refl w2).alloc (.cells #[.int .i64 x.a, .int .i64 x.b] 66)))
      have HC := Lib.hid (HR.out.2.2.1.step hxok hlk)
      have hcs := HR.out.2.1
      obtain ⟨fn, tmps, assign, body, hy, hR⟩ := HY.out ss x _ hJ3 (by omega)
      have HB := Lib.hid hR
      have HLT := Lib.hid hlt
      have HRO := Lib.hid hrg
      clear hs2 hR hJ2 hJ3 hrg2 hkey hlk hv hat ex hxok hlt hrg
      gi_wp2
      refine HB.out.mono ?_
      rintro en W3 (⟨rfl, hJ4, hk4⟩ | ⟨rfl, hJx4⟩)
      · have HRG4 := Lib.hid (HRG.out.of_walks hk4)
        have HJ4 := Lib.hid hJ4
        clear hJ4 hk4
        gi_wp2
        go_roundw
        case rel => exact ⟨_, cnt2, ss ++ [x], Lib.hid ⟨HRG4.out, by simp; have := HLT.out; omega, HC.out, HJ4.out⟩⟩
        case measure => rw [HRG4.out.left_eq, HRO.out.left_eq]; exact HLT.out
      · gi_wp2
        refine bodyPost_ret (results_none rfl _ _ _) rfl ?_
        exact ⟨⟨_, rfl⟩, .inr ⟨_, trivial, hJx4⟩⟩
theorem ownsMap_below {w W : World} {b nn N : Nat} {D : DataW Value} (h : w.ownsMap Try.prog 66 hold b nn D) (hW : Below N w W) (hb : b < N) : W.ownsMap Try.prog 66 hold b nn D := by
  obtain ⟨es, clock, hb2, Ft, hs, hD⟩ := h
  exact ⟨es, clock, (hW.block b hb).trans hb2, Ft, hs, hD⟩
/-- The iterator's value keeps its word. -/
theorem keysP_stops (F : Fence) (n : Nat) (h1 : F.fn 55) (hro : F.round = none) (hn : 1 ≤ n) (Bm b nn : Nat) (D : DataW Value) (w : World) (hBm : Bm < w.heap.size) (hm : w.cell? ⟨Bm, 0, none⟩ = some (.map (some b))) (hown : w.ownsMap Try.prog 66 hold b nn D) :
    SeqStopsK F n Try.prog 55 #[.pointer (some ⟨Bm, 0, none⟩)] (fun x : Pr => #[.agg #[.int .i64 x.a, .int .i64 x.b]]) KeepsWalks (KeysP D) (fun _ => True) (Maps.size D) w :=
  fun l J Jx W hW hJ hJx hY h0 => keysP1_in F n h1 hro hn l Bm b nn D J Jx hY W hJ ((hW.cell (p := ⟨Bm, 0, none⟩) hBm).trans hm) (ownsMap_below hown hW hown.lt) h0
/-- A block that holds a pair. -/
def BoxPr (W : World) (B : Nat) (x : Pr) : Prop := W.heap[B]? = some (.cells #[.int .i64 x.a, .int .i64 x.b] 66 (0, 0))
theorem BoxPr.new (W : World) (x : Pr) : BoxPr (W.alloc (.cells #[.int .i64 x.a, .int .i64 x.b] 66)) W.heap.size x := World.alloc_heap_new W _
theorem BoxPr.own {X Y : World} {row : Option Nat} {B : Nat} {x : Pr} (h : BoxPr X B x) (hg : X.grownBy Y row) (hr : ∀ r, row = some r → ∃ o : Obj, X.heap[r]? = some o ∧ o.isCells = false) : BoxPr Y B x := by
  refine (hg.block B (Array.getElem?_eq_some_iff.1 h).1 (fun e => ?_)).trans h
  obtain ⟨o, ho, hc⟩ := hr B e.symm
  rw [show X.heap[B]? = _ from h] at ho
  cases ho; cases hc
theorem BoxPr.cells {W : World} {B : Nat} {x : Pr} (h : BoxPr W B x) : W.cell? ⟨B, 0, none⟩ = some (.int .i64 x.a) ∧ W.cell? ⟨B, 1, none⟩ = some (.int .i64 x.b) := by
  refine ⟨?_, ?_⟩ <;> simp [World.cell?, show W.heap[B]? = _ from h]
theorem infoPr : (Try.prog.info? 66).map (fun i => (i.zero, i.size, i.bytes)) = some (some (.agg #[.int .i64 0, .int .i64 0]), 2, 16) := by kernel_rfl
theorem elemPr : ElemOf Try.prog 64 66 (.agg #[.int .i64 0, .int .i64 0]) 2 16 := ⟨Try.underlying64, infoPr, rfl, by omega⟩
/-- 'append(out, x)' inside a fence: what the law leaves, raw. -/
theorem wpListIn_app_raw {F : Fence} {m : Nat} {P : Program} {w : World} {ops : Array Oper} {rest : List Oper} {o : Oper} {a : Act} {Q : Exit → Act → World → Prop} {t e : TypeId} {z : Value} {size bytes : Nat}
    (E : ElemOf P t e z size bytes) (hgd : o.guard = none) (s x : Operand) (ho : o.op = .call { callee := .builtin .append, args := #[s, x], argTypes := #[t, t] })
    (v : Value) (n : Nat) (xs : List Value) (hs : a.eval s = v) (base : Nat) (hown : w.ownsRow base e size v n xs) (hbase : base ≤ w.heap.size)
    (news : List Value) (bx c : Nat) (hx : a.eval x = .slice (some ⟨bx, 0, none⟩) 1 c) (hbx : bx = w.heap.size) (hl : news.length = size) (h1 : ∀ u ∈ news, u.oneCell' = true) (hbytes : (n + 1) * bytes ≤ 140737488355328) (h63 : n + 1 ≤ 9223372036854775807)
    (h : ∀ v' w', w'.ownsRow base e size v' (n + 1) (xs ++ news) → (w.alloc (.cells news.toArray e)).grownBy w' v.ownBlock → wpListIn F m P ops Q rest (a.put o.dst v') w') :
    wpListIn F m P ops Q (o :: rest) a (w.alloc (.cells news.toArray e)) := by
  subst hbx
  obtain ⟨i0, hi, hz0, hz1, hz2⟩ := info_parts E.info
  refine wpListIn_append_own _ hgd s x t ho base e i0 z size bytes E.ht hi hz0 hz1 hz2 E.zs E.sz v n xs hs (hown.alloc _) ⟨w.heap.size, 0, none⟩ 1 c news hx (by omega) ?_ h1 (by unfold maxLen; omega) hbytes (by simp; omega) ?_
  · intro j u hj
    rw [Addr.add_lit, Nat.zero_add, cell_of_row (w.alloc (.cells news.toArray e)) w.heap.size j news.toArray e (0, 0) (heap_alloc_new w _)]
    simpa using hj
  · intro v' w' hown' hgrow _
    exact h v' w' hown' hgrow
/-- What a round of AppendSeq leaves. -/
theorem app_round {base B : Nat} {t ty : TypeId} {size k m : Nat} {W w4 : World} {v v' : Value} {xs ys : List Value} {tmp : Obj} (hbox : Boxed W B t v) (hrow : W.ownsRow base ty size v k xs) (hown' : w4.ownsRow base ty size v' m ys) (hgrow : (W.alloc tmp).grownBy w4 v.ownBlock) (hB : B < base) (hN : B ≤ W.heap.size) :
    Boxed w4 B t v ∧ Boxed (w4.setCell ⟨B, 0, none⟩ v') B t v' ∧ (w4.setCell ⟨B, 0, none⟩ v').ownsRow base ty size v' m ys ∧ KeepsOthers W (w4.setCell ⟨B, 0, none⟩ v') ∧ KeepsWalks W (w4.setCell ⟨B, 0, none⟩ v') ∧ Below B W (w4.setCell ⟨B, 0, none⟩ v') := by
  have hrow' : ∀ g, v.ownBlock = some g → base ≤ g ∧ ∃ cs fr, (W.alloc tmp).heap[g]? = some (.cells cs ty fr) := fun g e => by
    rcases (hrow.alloc tmp).2 with ⟨rfl, _⟩ | ⟨g', cap, cur, rfl, hbg, hgb, _⟩
    · cases e
    · cases e; exact ⟨hbg, _, _, hgb⟩
  have hb : Boxed w4 B t v := (hbox.alloc tmp).kept hgrow fun e => by have := (hrow' B e.symm).1; omega
  refine ⟨hb, hb.set v', ownsRow_setCell_below hown' (by exact hB) v', ?_, ?_, ?_⟩
  · refine ((KeepsOthers.alloc W tmp).trans (KeepsOthers.of_grownBy hgrow fun j o e hj => ?_)).trans (KeepsOthers.setCell _ _ _)
    obtain ⟨_, cs, fr, h2⟩ := hrow' j e
    rw [hj] at h2
    cases h2
    rfl
  · refine ((KeepsWalks.alloc W tmp).trans (KeepsWalks.of_grownBy hgrow fun j o e hj => ?_)).trans (KeepsWalks.setCell _ _ _)
    obtain ⟨_, cs, fr, h2⟩ := hrow' j e
    rw [hj] at h2
    cases h2
    rfl
  · refine (((Below.refl B W).alloc hN tmp).grown hgrow (by simp; omega) fun g e => ?_).setCell (p := ⟨B, 0, none⟩) (Nat.le_refl _) v'
    have := (hrow' g e).1
    omega
set_option maxRecDepth 100000 in
set_option maxHeartbeats 4000000 in
theorem appSeqP_in (F : Fence) (n : Nat) (h1 : F.fn 64) (h2 : F.fn 55) (hro : F.round = none) (hn : 3 ≤ n) (Bm b nn : Nat) (D : DataW Value) (w : World) (hm : w.cell? ⟨Bm, 0, none⟩ = some (.map (some b))) (hown : w.ownsMap Try.prog 66 hold b nn D) (hmax : Maps.size D ≤ 1000000) :
    CallsIn F n Try.prog 64 #[.slice none 0 0, .func (.func 55) #[] #[.pointer (some ⟨Bm, 0, none⟩)]] w fun e w' => ∃ v ss, e = .returned v ∧ KeysP D ss ∧ w'.ownsRow w.heap.size 66 2 v ss.length (ss.flatMap Pr.cells) ∧ Keeps w w' := by
  have hn1 : 1 ≤ n := by omega
  have hBm : Bm < w.heap.size := World.block_lt_of_cell? w _ hm
  refine callsIn_of_wp_marks Try.func64 rfl h1 ?_ hro
  simp only [Try.ntmps64, List.size_toArray, List.length_cons, List.length_nil, Nat.reduceAdd, Nat.reduceSub, Array.replicate_succ, Array.replicate_zero, List.push_toArray, List.append_toArray, List.nil_append, List.cons_append]
  gi_wp2
  have bS := Boxed.new w 64 (.slice none 0 0)
  have hK0 : Keeps w (w.alloc (.cells #[.slice none 0 0] 64)) := (Keeps.refl w).alloc _
  have hsz : (w.alloc (.cells #[.slice none 0 0] 64)).heap.size = w.heap.size + 1 := by simp
  obtain ⟨W0, hW0⟩ : ∃ W0, w.alloc (.cells #[.slice none 0 0] 64) = W0 := ⟨_, rfl⟩
  rw [hW0] at bS hK0 hsz ⊢
  have hs1 : w.heap.size + 1 ≤ W0.heap.size := by omega
  have hs2 : W0.heap.size ≤ w.heap.size + 1 := by omega
  clear hW0 hsz
  refine wpIn_rangeFunc_ownH hro hn1 (gf := 55) (lb := #[.pointer (some ⟨Bm, 0, none⟩)]) rfl h2 (enters_of Try.func55 (by kernel_rfl) rfl)
    (keysP_stops F (n - 1) h2 hro (by omega) Bm b nn D W0 (by omega) ((hK0.cell hm)) (ownsMap_below hown hK0 hown.lt))
    (fun h k => h.trans k) (fun W l o o' hl ho hc hw => KeepsWalks.putObj o' ho hw) (Below.refl _ _) (fun _ => rfl)
    (fun pre W => (∃ v, Boxed W w.heap.size 64 v ∧ W.ownsRow (w.heap.size + 1) 66 2 v pre.length (pre.flatMap Pr.cells) ∧ True) ∧ (Below w.heap.size w W ∧ W0.heap.size ≤ W.heap.size))
    (fun _ _ _ => False)
    (OwnFrom.and (Own.from (holdsRow_own (w.heap.size + 1) w.heap.size 64 66 2 (fun pre : List Pr => pre.length) (fun pre => pre.flatMap Pr.cells) (fun pre v => True)) _) (OwnFrom.and (ownFrom_below (Nat.le_refl _) (by omega)) (fun s X Y row hs hg hr => Nat.le_trans hs hg.size)))
    (fun _ _ _ _ _ hs _ _ => hs)
    ⟨⟨_, bS, World.ownsRow_nil _ _ _ _, trivial⟩, hK0, Nat.le_refl _⟩
    (fun x a' W => ∃ Bx, w.heap.size < Bx ∧ BoxPr W Bx x ∧ a' = { tmps := #[.slice none 0 0, .func (.func 55) #[] #[.pointer (some ⟨Bm, 0, none⟩)], .pointer (some ⟨w.heap.size, 0, none⟩), undef, .slice none 0 0, .pointer (some ⟨Bx, 0, none⟩), .func (.func 55) #[] #[.pointer (some ⟨Bm, 0, none⟩)], .agg #[.int .i64 x.a, .int .i64 x.b], undef, undef, undef, undef, undef], defers := [] })
    (fun x a' _ X Y row hs hg hr => by obtain ⟨Bx, h1, h2, h3⟩ := hs; exact ⟨Bx, h1, h2.own hg (fun r e => (hr r e).2), h3⟩)
    ?assign ?body ?done ?stop
  case assign =>
    rintro l pre x W K ⟨⟨v, hbox, hrow, _⟩, ⟨hbel, hsz⟩⟩ hK
    gi_wp2
    exact hK _ _ ((KeepsOthers.alloc _ _).from _) (KeepsWalks.alloc _ _) ⟨⟨v, hbox.alloc _, hrow.alloc _, trivial⟩, ⟨hbel.alloc hbel.size _, by simp; omega⟩⟩ ⟨W.heap.size, hbox.lt, BoxPr.new W x, rfl⟩
  case body =>
    rintro l pre x a' W hl ⟨r, hr⟩ ⟨⟨v, hbox, hrow, _⟩, ⟨hbel, hsz⟩⟩ ⟨Bx, hBx, bX, rfl⟩ hlt
    obtain ⟨x0, x1⟩ := bX.cells
    have hbx := (Array.getElem?_eq_some_iff.1 bX).1
    have cS := hbox.cell
    have zS := hbox.lt
    have HI := Lib.hid (And.intro hbox (And.intro hrow (And.intro hbel hsz)))
    clear hbox hrow hbel hr bX
    gi_wp2_with (gi_at_builtin; refine wpListIn_app_raw elemPr rfl _ _ rfl v pre.length (pre.flatMap Pr.cells) rfl (w.heap.size + 1) HI.out.2.1 (by omega) (Pr.cells x) W.heap.size 1 rfl rfl rfl (Pr.one x) (by omega) (by omega) ?_; intro v4 w4 hown4 hgrow4; obtain ⟨g4, cap4, rfl⟩ := ownsRow_succ hown4; have HA := Lib.hid (app_round HI.out.1 HI.out.2.1 hown4 hgrow4 (by omega) (by omega)); have hc4 := HA.out.1.cell; have hf4 := HA.out.1.frozen; have hz4 := HA.out.1.lt; clear hown4 hgrow4)
    exact ⟨HA.out.2.2.2.1.from _, HA.out.2.2.2.2.1, ⟨⟨_, HA.out.2.1, by rw [List.length_append, List.flatMap_append]; simpa [List.flatMap] using HA.out.2.2.1, trivial⟩, HI.out.2.2.1.trans HA.out.2.2.2.2.2, Nat.le_trans HI.out.2.2.2 HA.out.2.2.2.2.1.size⟩⟩
  case done =>
    rintro Dd ys W hD hS ⟨⟨v, hbox, hrow, _⟩, ⟨hbel, hsz⟩⟩ hK
    have cS := hbox.cell
    have HROW := Lib.hid hrow
    have HBEL := Lib.hid hbel
    have HSS := Lib.hid hS
    clear hrow hbel hS
    gi_wp2
    refine ⟨by simp, .inl ⟨_, _, rfl, run_takeDeferred hK, ?_⟩⟩
    refine ⟨_, results_tmp rfl _ _ _, v, ys, rfl, HSS.out, ?_, HBEL.out.trans (belowK_b (w := w) (Nat.le_refl _) W Dd _ _ (by omega) hK rfl rfl)⟩
    exact own_baseP (ownsRow_putObj HROW.out _ hK rfl) (by omega)
  case stop =>
    rintro Dd c pre W _ _ h _
    exact h.elim
set_option maxHeartbeats 1000000 in
theorem collectP_in (Bm b nn : Nat) (D : DataW Value) (w : World) (hm : w.cell? ⟨Bm, 0, none⟩ = some (.map (some b))) (hown : w.ownsMap Try.prog 66 hold b nn D) (hmax : Maps.size D ≤ 1000000) :
    Calls Try.prog 53 #[.func (.func 55) #[] #[.pointer (some ⟨Bm, 0, none⟩)]] w fun e w' => ∃ v ss, e = .returned v ∧ KeysP D ss ∧ w'.ownsRow w.heap.size 66 2 v ss.length (ss.flatMap Pr.cells) ∧ Keeps w w' := by
  have HC := Lib.hid ((callsIn_wide (n := 4)).1 (appSeqP_in Fence.wide 4 trivial trivial rfl (by omega) Bm b nn D w hm hown hmax))
  clear hown
  go_enter Try.func53, Try.ntmps53
  go_wp2_with (go_at_call 64; refine HC.out.mono ?_; rintro e w1 ⟨v, ss, rfl, hS, ho, hk⟩)
  go_ret
  exact ⟨v, ss, rfl, hS, ho, hk⟩
end Go.Proofs.Ytfddhmhagijodaa
