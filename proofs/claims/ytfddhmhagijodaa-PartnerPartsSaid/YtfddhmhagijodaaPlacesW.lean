/- partner.places: the walk. -/
import Derived.Test.YtfddhmhagijodaaPlcS
import Derived.Test.YtfddhmhagijodaaApp2
import Derived.Test.YtfddhmhagijodaaRowsP
namespace Go.Proofs.Ytfddhmhagijodaa
open Go.RowKit
set_option linter.unusedSimpArgs false
set_option linter.unusedVariables false

theorem infoPlc : (Try.prog.info? 75).map (fun i => (i.zero, i.size, i.bytes)) = some (some (.agg #[.int .i64 0, .int .i64 0, .int .i64 0, .int .i64 0, .int .i64 0, .int .i64 0, .int .i64 0, .int .i64 0]), 8, 64) := by kernel_rfl
theorem elemPlc : ElemOf Try.prog 72 75 (.agg #[.int .i64 0, .int .i64 0, .int .i64 0, .int .i64 0, .int .i64 0, .int .i64 0, .int .i64 0, .int .i64 0]) 8 64 := ⟨Try.underlying72, infoPlc, rfl, by omega⟩
theorem insertion_nil (w : World) : Calls Try.prog 78 #[.slice none 0 0, .int .i64 0, .int .i64 0, .func (.func 52) #[] #[]] w fun e w' => e = .returned (.tuple #[]) ∧ w = w' := by
  go_enter Try.func78, Try.ntmps78
  go_wp2
  refine wp_loop_rounds 1 ?_
  rw [rounds_succ]
  go_wp2_with fail
  go_end0
  exact ⟨rfl, rfl⟩
theorem stable_nil (w : World) : Calls Try.prog 62 #[.slice none 0 0, .int .i64 0, .func (.func 52) #[] #[]] w fun e w' => e = .returned (.tuple #[]) ∧ w = w' := by
  go_enter Try.func62, Try.ntmps62
  go_wp2
  refine wp_loop_rounds 1 ?_
  rw [rounds_succ]
  go_wp2_with (go_at_call 78; refine (insertion_nil _).mono ?_; rintro e w1 ⟨rfl, rfl⟩)
  refine wp_loop_rounds 1 ?_
  rw [rounds_succ]
  go_wp2_with fail
  go_end0
  exact ⟨rfl, rfl⟩
theorem sortp_nil (w : World) : Calls Try.prog 51 #[.slice none 0 0, .func (.func 52) #[] #[]] w fun e w' => e = .returned (.tuple #[]) ∧ w = w' := by
  go_enter Try.func51, Try.ntmps51
  go_wp2_with (go_at_call 62; refine (stable_nil _).mono ?_; rintro e w1 ⟨rfl, rfl⟩)
  go_end0
  exact ⟨rfl, rfl⟩
/-- The box of an entry; v is not in it. -/
def BoxE (w : World) (bx : Nat) (x : Jrn) (v : Value) : Prop := w.cell? ⟨bx, 0, none⟩ = some (.int .i64 x.id) ∧ w.cell? ⟨bx, 1, none⟩ = some (.int .i64 x.ent) ∧ w.cell? ⟨bx, 2, none⟩ = some (.int .i64 x.date) ∧ v.ownBlock ≠ some bx
theorem BoxE.step {w w' : World} {bx : Nat} {x : Jrn} {v v' : Value} {o p : Obj} (h : BoxE w bx x v) (hg : ((w.alloc o).alloc p).grownBy w' v.ownBlock) (hv : v'.ownBlock = v.ownBlock ∨ v'.ownBlock = some (w.heap.size + 1 + 1)) : BoxE w' bx x v' := by
  have hlt := World.block_lt_of_cell? _ _ h.1
  simp only at hlt
  have hk : ∀ {q : Addr} {u : Value}, q.block = bx → w.cell? q = some u → w'.cell? q = some u := fun {q u} hq hc => by
    refine hg.cell (((Keeps.refl w).alloc o).alloc p |>.cell hc) ?_
    rw [hq]; exact fun e => h.2.2.2 e.symm
  refine ⟨hk rfl h.1, hk rfl h.2.1, hk rfl h.2.2.1, ?_⟩
  rcases hv with e | e
  · rw [e]; exact h.2.2.2
  · rw [e]; intro h2; have := Option.some.inj h2; omega
set_option maxRecDepth 100000 in
set_option maxHeartbeats 4000000 in
theorem places_any (bv : List Value) (hbl : bv.length = 27) (hb1 : ∀ v ∈ bv, v.oneCell' = true) (es : List JV) (ao : Option Addr) (cap b o : Nat) (hbe : bv[21]? = some (.slice ao es.length cap)) (date : Int) (w : World) (H : Jrns w es ao cap b o)
    (hn : es.length ≤ 42) (hm : ∀ e ∈ es, e.x.lines.length ≤ 8) :
    Calls Try.prog 38 #[.agg bv.toArray, .int .i64 date] w
      fun e w' => ∃ v, e = .returned v ∧ w'.ownsRow w.heap.size 75 8 v (places date (es.map JV.x)).length ((places date (es.map JV.x)).flatMap Plc.cells) ∧ Keeps w w' := by
  have hcap := Sl.cap H.row
  have hle := Sl.le H.row
  have HH := Lib.hid H
  have hb21 : bv[21] = .slice ao es.length cap := by rw [List.getElem?_eq_getElem (by omega)] at hbe; exact Option.some.inj hbe
  have hlen28 : ∀ W : World, (Builtin.len_ #[30] 3 #[bv[21]]).run Try.prog W = .ok (.int .i64 es.length) W := fun W => by rw [hb21]; rfl
  clear H
  go_enter Try.func38, Try.ntmps38
  go_wp2_with fail
  go_loopw [5, 13] (fun vo vi wr => ∃ (i : Nat) (xs : List Plc), i ≤ es.length ∧ xs.length ≤ i * 8 ∧ vi = .int .i64 i ∧ Hid (xs = plsAt date 0 ((es.map JV.x).take i)) ∧ Hid (Keeps w wr ∧ wr.ownsRow w.heap.size 75 8 vo xs.length (xs.flatMap Plc.cells))) (fun _ vi _ => es.length - (intOf vi).toNat)
  case atStart => exact ⟨0, [], Nat.zero_le _, Nat.zero_le _, rfl, Lib.hid (by simp [plsAt]), Lib.hid ⟨(Keeps.refl w).alloc _, World.ownsRow_nil _ _ _ _⟩⟩
  case round =>
    obtain ⟨i, xs, hi, hxl, rfl, HX, HW⟩ := hrel
    obtain ⟨wa, hwa⟩ : ∃ wa : World, wa = wr := ⟨_, rfl⟩
    subst hwa
    by_cases hlt : i < es.length
    · have hrow := HH.out.row.keeps HW.out.1
      have hix := Sl.at hrow Try.underlying30 Try.sizeOf50 i hlt
      obtain ⟨y, hy⟩ : ∃ y, es[i] = y := ⟨_, rfl⟩
      have c0 := hrow.cell JV.len i hlt 0 (.int .i64 y.x.id) (by rw [hy]; rfl)
      rw [Nat.add_zero] at c0
      have c1 := hrow.cell JV.len i hlt 1 (.int .i64 y.x.ent) (by rw [hy]; rfl)
      have c2 := hrow.cell JV.len i hlt 2 (.int .i64 y.x.date) (by rw [hy]; rfl)
      have c3 := hrow.cell JV.len i hlt 3 (.int .i64 y.x.kind) (by rw [hy]; rfl)
      have c4 := hrow.cell JV.len i hlt 4 (.int .i64 y.x.of_) (by rw [hy]; rfl)
      have c5 := hrow.cell JV.len i hlt 5 (.string y.x.text) (by rw [hy]; rfl)
      have c6 := hrow.cell JV.len i hlt 6 (.slice y.a y.x.lines.length y.c) (by rw [hy]; rfl)
      have hyl : y.x.lines.length ≤ 8 := by rw [← hy]; exact hm _ (List.getElem_mem ..)
      have HL : Hid (Recs w 3 Ln.cells y.a y.x.lines y.c y.b y.o) := Lib.hid (by rw [← hy]; exact HH.out.lines _ (List.getElem_mem ..))
      have HY := Lib.hid hy
      clear hy
      by_cases hd : y.x.date > date
      · have hdt : decide (date < y.x.date) = true := by simpa using hd
        have HX2 : Hid (xs = plsAt date 0 ((es.map JV.x).take (i + 1))) := Lib.hid (by
          rw [take_snoc _ i (by simpa using hlt), plsAt_snoc, ← HX.out]
          simp [HY.out, jPls, hd])
        clear hd
        go_wp2_with fail
        go_roundw
        case rel => exact ⟨i + 1, xs, by omega, by omega, by go_num, HX2, Lib.hid ⟨HW.out.1.alloc _, HW.out.2.alloc _⟩⟩
        case measure => simp [intOf]; omega
      · have hdf : decide (date < y.x.date) = false := by simpa using hd
        have HX2 : Hid (∀ zs, zs = xs ++ lnsAt y.x i 0 y.x.lines → zs = plsAt date 0 ((es.map JV.x).take (i + 1))) := Lib.hid (fun zs hz => by
          rw [hz, take_snoc _ i (by simpa using hlt), plsAt_snoc, ← HX.out]
          simp [HY.out, jPls, hd, Nat.min_eq_left hi])
        clear hd
        have hbsz := HW.out.1.size
        have hub : u5.ownBlock ≠ some wa.heap.size := fun e => by have := HW.out.2.lt _ e; omega
        go_wp2_with fail
        go_loopw [5, 25] (fun vo vj w2 => ∃ (j : Nat), j ≤ y.x.lines.length ∧ vj = .int .i64 j ∧ Hid (BoxE w2 wa.heap.size y.x vo) ∧ Hid (Keeps w w2 ∧ w2.ownsRow w.heap.size 75 8 vo (xs.length + j) ((xs ++ lnsAt y.x i 0 (y.x.lines.take j)).flatMap Plc.cells))) (fun _ vj _ => y.x.lines.length - (intOf vj).toNat)
        case atStart => exact ⟨0, Nat.zero_le _, rfl, Lib.hid ⟨by go_simp, by go_simp, by go_simp, hub⟩, Lib.hid ⟨HW.out.1.alloc _, by simpa [lnsAt] using HW.out.2.alloc _⟩⟩
        case round =>
          obtain ⟨j, hj, rfl, HB, HV⟩ := hrel
          by_cases hjl : j < y.x.lines.length
          · have hr2 := HL.out.keeps HV.out.1
            have hix2 := Sl.at hr2 Try.underlying48 Try.sizeOf56 j hjl
            obtain ⟨l, hl⟩ : ∃ l, y.x.lines[j] = l := ⟨_, rfl⟩
            have d0 := hr2.cell Ln.len j hjl 0 (.int .i64 l.acc) (by rw [hl]; rfl)
            rw [Nat.add_zero] at d0
            have d1 := hr2.cell Ln.len j hjl 1 (.int .i64 l.amt) (by rw [hl]; rfl)
            have d2 := hr2.cell Ln.len j hjl 2 (.int .i64 l.ptn) (by rw [hl]; rfl)
            obtain ⟨x0, x1, x2, _⟩ := HB.out
            have hzb := World.block_lt_of_cell? _ _ x0
            have HN : Hid ((xs ++ lnsAt y.x i 0 (y.x.lines.take j)).flatMap Plc.cells ++ [.int .i64 y.x.id, .int .i64 j, .int .i64 y.x.date, .int .i64 i, .int .i64 y.x.ent, .int .i64 l.acc, .int .i64 l.amt, .int .i64 l.ptn] = (xs ++ lnsAt y.x i 0 (y.x.lines.take (j + 1))).flatMap Plc.cells) := Lib.hid (by
              rw [take_snoc _ j hjl, lnsAt_snoc, hl, ← List.append_assoc, List.flatMap_append]
              simp [Plc.cells, Nat.min_eq_left hj])
            clear hl hr2
            go_wp2_with (at_builtin; (refine wpList_app_rawR elemPlc rfl (.tmp 30) (.tmp 42) rfl _ (xs.length + j) _ rfl w.heap.size (HV.out.2.alloc _) (by have := HV.out.1.size; simp; omega) [.int .i64 y.x.id, .int .i64 j, .int .i64 y.x.date, .int .i64 i, .int .i64 y.x.ent, .int .i64 l.acc, .int .i64 l.amt, .int .i64 l.ptn] (wr.heap.size + 1) 1 rfl (by simp) rfl (by intro u hu; simp at hu; rcases hu with rfl | rfl | rfl | rfl | rfl | rfl | rfl | rfl <;> rfl) (by omega) (by omega) ?_); intro v' w' ho hg hat)
            go_roundw
            case rel => exact ⟨j + 1, by omega, by go_num, Lib.hid (BoxE.step HB.out hg (hat.imp id (fun h => h.trans (by simp)))), Lib.hid ⟨(show Below w.heap.size w _ from (HV.out.1.alloc _).alloc _).grown hg (by have := HV.out.1.size; simp; omega) (fun k hk => (HV.out.2.lt k hk).1), by rw [HN.out] at ho; exact ho⟩⟩
            case measure => simp [intOf]; omega
          · obtain rfl : j = y.x.lines.length := by omega
            have HX3 := Lib.hid (HX2.out _ rfl)
            have hll := lnsAt_length y.x i y.x.lines 0
            go_wp2_with fail
            go_roundw
            case rel => exact ⟨i + 1, xs ++ lnsAt y.x i 0 y.x.lines, by omega, by rw [List.length_append, hll]; omega, by go_num, HX3, Lib.hid ⟨HV.out.1, by have h := HV.out.2; rw [List.take_length] at h; rw [List.length_append, hll]; exact h⟩⟩
            case measure => simp [intOf]; omega
    · obtain rfl : i = es.length := by omega
      have HXA : Hid (xs = plsAt date 0 (es.map JV.x)) := Lib.hid (by have h := HX.out; rwa [List.take_of_length_le (by simp)] at h)
      have HS : Hid (places date (es.map JV.x) = sortPl xs) := Lib.hid (by rw [HXA.out]; rfl)
      have HAP : Hid (xs.Pairwise (fun a b => cmpP a b ≠ 0)) := Lib.hid (by rw [HXA.out]; exact plsAt_apart _ _ _)
      have hown := HW.out.2
      rcases hown.2 with ⟨e5, h0⟩ | ⟨g, cap2, cur, e5, _, _, _, _, _, _⟩
      · clear hown
        subst e5
        have HZ : Hid (xs = []) := Lib.hid (List.eq_nil_of_length_eq_zero h0)
        clear h0
        go_wp2_with (go_at_call 51; refine (sortp_nil _).mono ?_; rintro e w1 ⟨rfl, rfl⟩)
        go_ret
        refine ⟨_, rfl, ?_, HW.out.1⟩
        rw [HS.out, HZ.out]
        exact World.ownsRow_nil _ _ _ _
      · subst e5
        have HO := Lib.hid (psort_own wa w.heap.size 75 g cap2 xs hown HAP.out (by omega))
        clear hown
        go_wp2_with (go_at_call 51; refine HO.out.mono ?_; rintro e w1 ⟨rfl, ho1, hg1⟩)
        go_ret
        refine ⟨_, rfl, ?_, (show Below w.heap.size w wa from HW.out.1).grown hg1 HW.out.1.size (fun k hk => by have hk2 : g = k := Option.some.inj hk; subst hk2; exact (HW.out.2.lt _ rfl).1)⟩
        rw [HS.out, sortPl_length]
        exact ho1
end Go.Proofs.Ytfddhmhagijodaa
