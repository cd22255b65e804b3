/- The reference's All: the walk. -/
import Derived.Test.YtfddhmhagijodaaRLessW
import Derived.Test.YtfddhmhagijodaaApp2
import Derived.Deep.RegionLaw
import Derived.Deep.RegionHeld3
namespace Go.Proofs.Ytfddhmhagijodaa
open Go.RowKit
set_option linter.unusedSimpArgs false
set_option linter.unusedVariables false

theorem elemRP : ElemOf Try.prog 81 84 (.agg #[.int .i64 0, .int .i64 0, .int .i64 0, .int .i64 0, .int .i64 0, .string ⟨#[]⟩, .slice none 0 0, .int .i64 0, .int .i64 0, .int .i64 0, .int .i64 0, .int .i64 0, .int .i64 0, .int .i64 0]) 14 136 := ⟨Try.underlying81, by kernel_rfl, rfl, by omega⟩
theorem flat_takeP {α : Type} {enc : α → List Value} {sz : Nat} (he : ∀ a, (enc a).length = sz) (l : List α) (k : Nat) : (l.take k).flatMap enc = (l.flatMap enc).take (k * sz) := by
  induction l generalizing k with
  | nil => simp
  | cons x l ih =>
    cases k with
    | zero => simp
    | succ k => rw [List.take_succ_cons, List.flatMap_cons, List.flatMap_cons, ih, List.take_append, he, List.take_of_length_le (l := enc x) (by rw [he, Nat.add_mul]; omega), show (k + 1) * sz - sz = k * sz from by rw [Nat.add_mul]; omega]
theorem flat_dropP {α : Type} {enc : α → List Value} {sz : Nat} (he : ∀ a, (enc a).length = sz) (l : List α) (k : Nat) : (l.drop k).flatMap enc = (l.flatMap enc).drop (k * sz) := by
  induction l generalizing k with
  | nil => simp
  | cons x l ih =>
    cases k with
    | zero => simp
    | succ k =>
      have hx : (enc x).drop ((k + 1) * sz) = [] := List.drop_eq_nil_of_le (by rw [he, Nat.add_mul]; omega)
      rw [List.drop_succ_cons, List.flatMap_cons, ih, List.drop_append, he, hx, List.nil_append, show (k + 1) * sz - sz = k * sz from by rw [Nat.add_mul]; omega]
/-- The box of an entry. -/
structure BoxX (w : World) (B : Nat) (y : JV) : Prop where
  c0 : w.cell? ⟨B, 0, none⟩ = some (.int .i64 y.x.id)
  c1 : w.cell? ⟨B, 1, none⟩ = some (.int .i64 y.x.ent)
  c2 : w.cell? ⟨B, 2, none⟩ = some (.int .i64 y.x.date)
  c3 : w.cell? ⟨B, 3, none⟩ = some (.int .i64 y.x.kind)
  c4 : w.cell? ⟨B, 4, none⟩ = some (.int .i64 y.x.of_)
  c5 : w.cell? ⟨B, 5, none⟩ = some (.string y.x.text)
  c6 : w.cell? ⟨B, 6, none⟩ = some (.slice y.a y.x.lines.length y.c)
theorem BoxX.keeps {w w' : World} {B : Nat} {y : JV} (h : BoxX w B y) (k : Keeps w w') : BoxX w' B y := ⟨k.cell h.c0, k.cell h.c1, k.cell h.c2, k.cell h.c3, k.cell h.c4, k.cell h.c5, k.cell h.c6⟩
/-- The box of a place. -/
def BoxP (w : World) (B : Nat) (p : RP) : Prop := w.rangeAt B 0 p.cells
theorem rpSize : (Try.prog.info? 84).map (·.size) = some 14 := by kernel_rfl
theorem cell_newx {w : World} {cs : List Value} {ty : TypeId} {B j : Nat} {u : Value} (hB : B = w.heap.size) (hj : cs[j]? = some u) : (w.alloc (.cells cs.toArray ty)).cell? ⟨B, j, none⟩ = some u := by
  subst hB
  have := box_range w cs ty j u hj
  rwa [Nat.zero_add] at this
theorem boxP_cells {W : World} {B : Nat} {p : RP} (h : BoxP W B p) : W.cell? ⟨B, 0, none⟩ = some (.int .i64 p.y.x.id) ∧ W.cell? ⟨B, 1, none⟩ = some (.int .i64 p.y.x.ent) ∧ W.cell? ⟨B, 2, none⟩ = some (.int .i64 p.y.x.date) ∧ W.cell? ⟨B, 3, none⟩ = some (.int .i64 p.y.x.kind) ∧ W.cell? ⟨B, 4, none⟩ = some (.int .i64 p.y.x.of_) ∧ W.cell? ⟨B, 5, none⟩ = some (.string p.y.x.text) ∧ W.cell? ⟨B, 6, none⟩ = some (.slice p.y.a p.y.x.lines.length p.y.c) ∧ W.cell? ⟨B, 7, none⟩ = some (.int .i64 p.l.acc) ∧ W.cell? ⟨B, 8, none⟩ = some (.int .i64 p.l.amt) ∧ W.cell? ⟨B, 9, none⟩ = some (.int .i64 p.l.ptn) ∧ W.cell? ⟨B, 10, none⟩ = some (.int .i64 p.y.x.id) ∧ W.cell? ⟨B, 11, none⟩ = some (.int .i64 p.k) ∧ W.cell? ⟨B, 12, none⟩ = some (.int .i64 p.i) ∧ W.cell? ⟨B, 13, none⟩ = some (.int .i64 p.k) := by
  have hh : ∀ j v, p.cells[j]? = some v → W.cell? ⟨B, j, none⟩ = some v := fun j v hv => by have := h j v hv; rwa [Nat.zero_add] at this
  exact ⟨hh 0 _ rfl, hh 1 _ rfl, hh 2 _ rfl, hh 3 _ rfl, hh 4 _ rfl, hh 5 _ rfl, hh 6 _ rfl, hh 7 _ rfl, hh 8 _ rfl, hh 9 _ rfl, hh 10 _ rfl, hh 11 _ rfl, hh 12 _ rfl, hh 13 _ rfl⟩
theorem exec_load_mid {P : Program} {op : Oper} {w : World} (ty : TypeId) (x : Operand) (ho : op.op = .load ty x) (ρ : Operand → Value) (b o : Nat) (cs : List Value) (hx : ρ x = .pointer (some ⟨b, o, none⟩)) {d : TypeDesc} (hc : w.rangeAt b o cs)
    (hu : P.underlying ty = some d) (hd : d.isRow = true) (hi : (P.info? ty).map (·.size) = some cs.length) : (execOp ρ op).run P w = .ok (.value (.agg cs.toArray)) w := by
  unfold execOp
  simp only [ho, hx, Instr.loadAt, Instr.sureAddr, Sem.run_bind, Sem.run_pure, Result.andThen_ok, run_loadVar_mid w b o ty cs d hc hu hd hi]
theorem Recs.range {α : Type} {w : World} {sz : Nat} {enc : α → List Value} {ao : Option Addr} {l : List α} {cap b o : Nat} (H : Recs w sz enc ao l cap b o) (he : ∀ a, (enc a).length = sz) (k : Nat) (hk : k < l.length) : w.rangeAt b (o + k * sz) (enc l[k]) := fun j v hv => H.cell he k hk j v hv
set_option maxRecDepth 100000 in
set_option maxHeartbeats 16000000 in
theorem rallW_any (bv : List Value) (es : List JV) (ms : List MV) (w : World) (H : Bks w bv es ms) (hn : es.length ≤ 40) (hm : ∀ e ∈ es, e.x.lines.length ≤ 8) :
    Calls Try.prog 43 #[.agg bv.toArray] w fun e w' => ∃ v, e = .returned v ∧ w'.ownsRow w.heap.size 84 14 v (rsort (rall 0 es)).length ((rsort (rall 0 es)).flatMap RP.cells) ∧ Keeps w w' := by
  obtain ⟨ao1, cap1, b1, o1, he1, hj⟩ := H.ents
  have HJ := Lib.hid hj
  have h1 := Sl.le hj.row
  have h2 := Sl.cap hj.row
  have hrg := box_range w bv 36
  have c21 := hrg 21 _ he1
  simp only [Nat.zero_add] at c21
  have hk0 : Keeps w (w.alloc (.cells bv.toArray 36)) := (Keeps.refl w).alloc _
  obtain ⟨W1, hW1⟩ : ∃ W1, w.alloc (.cells bv.toArray 36) = W1 := ⟨_, rfl⟩
  rw [hW1] at c21 hk0
  have HK0 := Lib.hid hk0
  have C21 := Lib.hid c21
  clear hj hrg H hk0 c21
  go_enter Try.func43, Try.ntmps43
  go_wp2_with fail
  try rw [hW1]
  clear hW1
  go_loopw [3, 4] (fun vo vi wr => ∃ (i : Nat) (R : List RP), i ≤ es.length ∧ R.length ≤ i * 8 ∧ vi = .int .i64 i ∧ Hid (R = rsort (rall 0 (es.take i))) ∧ Hid (Keeps W1 wr ∧ wr.ownsRow W1.heap.size 84 14 vo R.length (R.flatMap RP.cells))) (fun _ vi _ => es.length - (intOf vi).toNat)
  case atStart => exact ⟨0, [], Nat.zero_le _, Nat.zero_le _, rfl, Lib.hid (by simp [rall, rsort]), Lib.hid ⟨Keeps.refl _, World.ownsRow_nil _ _ _ _⟩⟩
  case round =>
    obtain ⟨i, R, hi, hRl, rfl, HR, HW⟩ := hrel
    obtain ⟨wa, rfl⟩ : ∃ wa : World, wa = wr := ⟨_, rfl⟩
    have c21a := HW.out.1.cell C21.out
    by_cases hlt : i < es.length
    · have hr := HJ.out.row.keeps (HK0.out.trans HW.out.1)
      have hix := Sl.at hr Try.underlying30 Try.sizeOf50 i hlt
      obtain ⟨y, hy⟩ : ∃ y, es[i] = y := ⟨_, rfl⟩
      have d0 := hr.cell JV.len i hlt 0 (.int .i64 y.x.id) (by rw [hy]; rfl)
      rw [Nat.add_zero] at d0
      have d1 := hr.cell JV.len i hlt 1 (.int .i64 y.x.ent) (by rw [hy]; rfl)
      have d2 := hr.cell JV.len i hlt 2 (.int .i64 y.x.date) (by rw [hy]; rfl)
      have d3 := hr.cell JV.len i hlt 3 (.int .i64 y.x.kind) (by rw [hy]; rfl)
      have d4 := hr.cell JV.len i hlt 4 (.int .i64 y.x.of_) (by rw [hy]; rfl)
      have d5 := hr.cell JV.len i hlt 5 (.string y.x.text) (by rw [hy]; rfl)
      have d6 := hr.cell JV.len i hlt 6 (.slice y.a y.x.lines.length y.c) (by rw [hy]; rfl)
      have hyl : y.x.lines.length ≤ 8 := by rw [← hy]; exact hm _ (List.getElem_mem ..)
      have HL : Hid (∀ W, Keeps w W → Recs W 3 Ln.cells y.a y.x.lines y.c y.b y.o) := Lib.hid (fun W hW => by rw [← hy]; exact (HJ.out.lines _ (List.getElem_mem ..)).keeps hW)
      have HS : Hid (∀ M, M = rsort (rall 0 (es.take i) ++ rlns y i 0 y.x.lines) → M = rsort (rall 0 (es.take (i + 1)))) := Lib.hid (fun M hM => by
        rw [hM, take_snoc _ i hlt, rall_snoc, hy, List.length_take, Nat.min_eq_left hi, Nat.zero_add])
      obtain ⟨W2, hW2⟩ : ∃ W2, wa.alloc (.cells #[.int .i64 y.x.id, .int .i64 y.x.ent, .int .i64 y.x.date, .int .i64 y.x.kind, .int .i64 y.x.of_, .string y.x.text, .slice y.a y.x.lines.length y.c] 50) = W2 := ⟨_, rfl⟩
      have HX : Hid (BoxX W2 wa.heap.size y) := Lib.hid (by subst hW2; exact ⟨by go_simp, by go_simp, by go_simp, by go_simp, by go_simp, by go_simp, by go_simp⟩)
      have HK2 : Hid (Keeps W1 W2) := Lib.hid (by rw [← hW2]; exact HW.out.1.alloc _)
      have HO2 : Hid (W2.ownsRow W1.heap.size 84 14 u3 R.length (R.flatMap RP.cells)) := Lib.hid (by rw [← hW2]; exact HW.out.2.alloc _)
      clear hr hy
      go_wp2_with fail
      try rw [hW2]
      clear hW2 d0 d1 d2 d3 d4 d5 d6 c21a HW
      go_loopw [3, 6] (fun vo vk w3 => ∃ (k : Nat) (M : List RP), k ≤ y.x.lines.length ∧ M.length ≤ R.length + k ∧ vk = .int .i64 k ∧ Hid (M = rsort (rall 0 (es.take i) ++ rlns y i 0 (y.x.lines.take k))) ∧ Hid (Keeps W2 w3 ∧ w3.ownsRow W1.heap.size 84 14 vo M.length (M.flatMap RP.cells))) (fun _ vk _ => y.x.lines.length - (intOf vk).toNat)
      case atStart => exact ⟨0, R, Nat.zero_le _, Nat.le_refl _, rfl, Lib.hid (by rw [HR.out]; simp [rlns]), Lib.hid ⟨Keeps.refl _, HO2.out⟩⟩
      case round =>
        obtain ⟨k, M, hk, hMl, rfl, HM, HV⟩ := hrel
        have hMk : M.length ≤ 328 := by omega
        obtain ⟨c0, c1, c2, c3, c4, c5, c6⟩ := HX.out.keeps HV.out.1
        have hbx := World.block_lt_of_cell? _ _ c0
        by_cases hkl : k < y.x.lines.length
        · have hl3 := HL.out _ (HK0.out.trans (HK2.out.trans HV.out.1))
          have hixl := Sl.at hl3 Try.underlying48 Try.sizeOf56 k hkl
          obtain ⟨l, hl⟩ : ∃ l, y.x.lines[k] = l := ⟨_, rfl⟩
          have k0 := hl3.cell Ln.len k hkl 0 (.int .i64 l.acc) (by rw [hl]; rfl)
          have k1 := hl3.cell Ln.len k hkl 1 (.int .i64 l.amt) (by rw [hl]; rfl)
          have k2 := hl3.cell Ln.len k hkl 2 (.int .i64 l.ptn) (by rw [hl]; rfl)
          rw [Nat.add_zero] at k0
          obtain ⟨p, hp⟩ : ∃ p : RP, p = ⟨y, l, k, i⟩ := ⟨_, rfl⟩
          have HM2 : Hid (insR p M = rsort (rall 0 (es.take i) ++ rlns y i 0 (y.x.lines.take (k + 1)))) := Lib.hid (by
            rw [take_snoc _ k hkl, rlns_snoc, hl, ← List.append_assoc, rsort_snoc, ← HM.out, hp, List.length_take, Nat.min_eq_left hk, Nat.zero_add])
          have hbl := World.block_lt_of_cell? _ _ k0
          have HPH := Lib.hid hp
          clear hl3 hl hp
          obtain ⟨wb, rfl⟩ : ∃ wb : World, wb = wr := ⟨_, rfl⟩
          go_upto_region 9 with (fail)
          go_cut [7] from 28 to 40 (fun v7 wx => v7 = .pointer (some ⟨wb.heap.size, 0, none⟩) ∧ Hid (Keeps wb wx ∧ BoxP wx wb.heap.size p))
          case first =>
            go_region_held3 (fun w' => w'.cell? ⟨wa.heap.size, 0, none⟩ = some (.int .i64 y.x.id) ∧ w'.cell? ⟨wa.heap.size, 1, none⟩ = some (.int .i64 y.x.ent) ∧ w'.cell? ⟨wa.heap.size, 2, none⟩ = some (.int .i64 y.x.date) ∧ w'.cell? ⟨wa.heap.size, 3, none⟩ = some (.int .i64 y.x.kind) ∧ w'.cell? ⟨wa.heap.size, 4, none⟩ = some (.int .i64 y.x.of_) ∧ w'.cell? ⟨wa.heap.size, 5, none⟩ = some (.string y.x.text) ∧ w'.cell? ⟨wa.heap.size, 6, none⟩ = some (.slice y.a y.x.lines.length y.c) ∧ w'.cell? ⟨y.b, y.o + k * 3, none⟩ = some (.int .i64 l.acc) ∧ w'.cell? ⟨y.b, y.o + k * 3 + 1, none⟩ = some (.int .i64 l.amt) ∧ w'.cell? ⟨y.b, y.o + k * 3 + 2, none⟩ = some (.int .i64 l.ptn))
              (first | go_keep | (exact ⟨c0, c1, c2, c3, c4, c5, c6, k0, k1, k2⟩)) (fail)
            go_wp2_with fail
            go_meet
            have hp := HPH.out
            subst hp
            exact ⟨rfl, Lib.hid ⟨((Keeps.refl wb).alloc _).drew, fun j v hv => box_range wb (RP.cells ⟨y, l, k, i⟩) 84 j v hv⟩⟩
          case rest =>
            obtain ⟨rfl, HC⟩ := hcut
            have HPB : Hid (∀ W, Keeps wc W → BoxP W wb.heap.size p) := Lib.hid (fun W hW => range_keeps HC.out.2 hW)
            obtain ⟨ao3, cap3, b3, e3, hs3⟩ := Sl.own HV.out.2
            subst e3
            have HS3 := Lib.hid hs3
            have hcap3 := hs3.cap
            have hle3 := hs3.le
            have HKC := Lib.hid HC.out.1
            clear hs3 c0 c1 c2 c3 c4 c5 c6 k0 k1 k2 hixl HC
            go_wp2_with fail
            go_loopw [8] (fun vn w4 => ∃ n : Nat, n ≤ M.length ∧ vn = .int .i64 n ∧ Hid (Keeps wc w4) ∧ Hid (∀ q ∈ M.take n, cmpP q.plc p.plc < 0)) (fun vn _ => M.length - (intOf vn).toNat)
            case atStart => exact ⟨0, Nat.zero_le _, rfl, Lib.hid (Keeps.refl wc), Lib.hid (by simp)⟩
            case round =>
              obtain ⟨n, hnM, rfl, HKN, HB4⟩ := hrel
              obtain ⟨wd, rfl⟩ : ∃ wd : World, wd = wr := ⟨_, rfl⟩
              by_cases hlt2 : n < M.length
              · obtain ⟨q, hq⟩ : ∃ q, M[n] = q := ⟨_, rfl⟩
                have hix4 := Sl.at (show Recs wb 14 RP.cells ao3 M cap3 b3 0 from HS3.out) Try.underlying81 Try.sizeOf84 n hlt2
                simp only [Nat.zero_add] at hix4
                have HRQ : Hid (∀ W, Keeps wd.drew W → W.rangeAt b3 (n * 14) [.int .i64 q.y.x.id, .int .i64 q.y.x.ent, .int .i64 q.y.x.date, .int .i64 q.y.x.kind, .int .i64 q.y.x.of_, .string q.y.x.text, .slice q.y.a q.y.x.lines.length q.y.c, .int .i64 q.l.acc, .int .i64 q.l.amt, .int .i64 q.l.ptn, .int .i64 q.y.x.id, .int .i64 q.k, .int .i64 q.i, .int .i64 q.k]) := Lib.hid (fun W hW => by
                  have := (show Recs W 14 RP.cells ao3 M cap3 b3 0 from HS3.out.keeps (HKC.out.trans (HKN.out.drew.trans hW))).range RP.len n hlt2
                  rw [hq, Nat.zero_add] at this
                  exact this)
                have HRP : Hid (∀ W, Keeps wd.drew W → W.rangeAt wb.heap.size 0 [.int .i64 p.y.x.id, .int .i64 p.y.x.ent, .int .i64 p.y.x.date, .int .i64 p.y.x.kind, .int .i64 p.y.x.of_, .string p.y.x.text, .slice p.y.a p.y.x.lines.length p.y.c, .int .i64 p.l.acc, .int .i64 p.l.amt, .int .i64 p.l.ptn, .int .i64 p.y.x.id, .int .i64 p.k, .int .i64 p.i, .int .i64 p.k]) := Lib.hid (fun W hW => HPB.out W (HKN.out.drew.trans hW))
                have hls := rless_any q p
                have hdl : decide ((n : Int) < (M.length : Int)) = true := by simp; omega
                cases hc : decide (cmpP q.plc p.plc < 0) with
                | true =>
                  rw [hc] at hls
                  have HLS := Lib.hid hls
                  have HB5 : Hid (∀ z ∈ M.take (n + 1), cmpP z.plc p.plc < 0) := Lib.hid (by
                    rw [take_snoc _ n hlt2]
                    intro z hz
                    rcases List.mem_append.1 hz with h | h
                    · exact HB4.out z h
                    · rw [List.mem_singleton] at h; rw [h, hq]; exact of_decide_eq_true hc)
                  clear hls hc hq
                  go_wp2_with fail
                  refine wp_region_steps (A := ?_) Keeps [some 41, some 42, some 43, some 44, some 45, some 46, some 47, some 48, some 49, some 50, some 51, some 52] [[], [], [1], [0, 2], [3], [4], [4], [4, 5, 6], [4, 7], [4], [4, 8, 9], [4, 10]] 12 (by kernel_rfl) (by kernel_rfl) (by kernel_rfl) (by kernel_rfl) (by kernel_rfl) (by kernel_rfl) Keeps.refl (fun _ _ _ => Keeps.trans) ?_ ?_
                  rotate_left
                  · intro f; simp only [putL, Act.put, List.setIfInBounds_toArray, List.set_cons_zero, List.set_cons_succ, Nat.zero_add, Nat.reduceAdd]; exact rfl
                  refine Steps.pure (v := ?_) Keeps.refl rfl (fun f w' hR hV => ⟨?_, ?_⟩) ?_
                  rotate_left
                  · (rfl)
                  · (clear hV; go_simp; all_goals (try with_reducible rfl))
                  refine Steps.pure (v := ?_) Keeps.refl rfl (fun f w' hR hV => ⟨?_, ?_⟩) ?_
                  rotate_left
                  · (rfl)
                  · (clear hV; go_simp; all_goals (try with_reducible rfl))
                  refine Steps.pure (v := ?_) Keeps.refl rfl (fun f w' hR hV => ⟨?_, ?_⟩) ?_
                  rotate_left
                  · (rfl)
                  · (obtain ⟨h1, _⟩ := hV; replace h1 : f 1 = _ := h1; go_simp; all_goals (try with_reducible rfl))
                  refine Steps.pure (v := ?_) Keeps.refl rfl (fun f w' hR hV => ⟨?_, ?_⟩) ?_
                  rotate_left
                  · (rfl)
                  · (obtain ⟨h0, h2, _⟩ := hV; replace h0 : f 0 = _ := h0; replace h2 : f 2 = _ := h2; go_simp; all_goals (try with_reducible rfl))
                  refine Steps.pure (v := ?_) Keeps.refl rfl (fun f w' hR hV => ⟨?_, ?_⟩) ?_
                  rotate_left
                  · (rfl)
                  · (obtain ⟨h3, _⟩ := hV; replace h3 : f 3 = _ := h3; go_simp; all_goals (try with_reducible rfl))
                  all_goals first
                    | (refine Steps.pure (v := ?_) Keeps.refl rfl (fun f w' hR hV => ⟨?_, ?_⟩) ?_
                       rotate_left
                       · (obtain ⟨h4, _⟩ := hV; replace h4 : f 4 = _ := h4; exact want_yes (t := 45) rfl (by kernel_rfl) rfl h4)
                       · (obtain ⟨h4, _⟩ := hV; replace h4 : f 4 = _ := h4; go_simp; all_goals (try with_reducible rfl)))
                    | (refine Steps.skip rfl (fun f w' hR hV => ?_) ?_
                       · (obtain ⟨h4, _⟩ := hV; replace h4 : f 4 = _ := h4; first | exact want_no (t := 45) rfl (by kernel_rfl) rfl h4 rfl | exact want_undef (t := 45) rfl (by kernel_rfl) rfl h4))
                  all_goals first
                    | (refine Steps.pure (v := ?_) Keeps.refl rfl (fun f w' hR hV => ⟨?_, ?_⟩) ?_
                       rotate_left
                       · (obtain ⟨h4, _⟩ := hV; replace h4 : f 4 = _ := h4; exact want_yes (t := 45) rfl (by kernel_rfl) rfl h4)
                       · (obtain ⟨h4, _⟩ := hV; replace h4 : f 4 = _ := h4; go_simp; all_goals (try with_reducible rfl)))
                    | (refine Steps.skip rfl (fun f w' hR hV => ?_) ?_
                       · (obtain ⟨h4, _⟩ := hV; replace h4 : f 4 = _ := h4; first | exact want_no (t := 45) rfl (by kernel_rfl) rfl h4 rfl | exact want_undef (t := 45) rfl (by kernel_rfl) rfl h4))
                  all_goals first
                    | (refine Steps.pure (v := ?_) Keeps.refl rfl (fun f w' hR hV => ⟨?_, ?_⟩) ?_
                       rotate_left
                       · (obtain ⟨h4, _, _, _⟩ := hV; replace h4 : f 4 = _ := h4; exact want_yes (t := 45) rfl (by kernel_rfl) rfl h4)
                       · (obtain ⟨h4, h5, h6, _⟩ := hV; replace h4 : f 4 = _ := h4; replace h5 : f 5 = _ := h5; replace h6 : f 6 = _ := h6; go_simp; all_goals (try with_reducible rfl)))
                    | (refine Steps.skip rfl (fun f w' hR hV => ?_) ?_
                       · (obtain ⟨h4, _, _, _⟩ := hV; replace h4 : f 4 = _ := h4; first | exact want_no (t := 45) rfl (by kernel_rfl) rfl h4 rfl | exact want_undef (t := 45) rfl (by kernel_rfl) rfl h4))
                  all_goals first
                    | (refine Steps.pure (v := .agg #[.int .i64 q.y.x.id, .int .i64 q.y.x.ent, .int .i64 q.y.x.date, .int .i64 q.y.x.kind, .int .i64 q.y.x.of_, .string q.y.x.text, .slice q.y.a q.y.x.lines.length q.y.c, .int .i64 q.l.acc, .int .i64 q.l.amt, .int .i64 q.l.ptn, .int .i64 q.y.x.id, .int .i64 q.k, .int .i64 q.i, .int .i64 q.k]) Keeps.refl rfl (fun f w' hR hV => ⟨?_, ?_⟩) ?_
                       · (obtain ⟨h4, _, _⟩ := hV; replace h4 : f 4 = _ := h4; exact want_yes (t := 45) rfl (by kernel_rfl) rfl h4)
                       · (obtain ⟨h4, h7, _⟩ := hV; replace h4 : f 4 = _ := h4; replace h7 : f 7 = _ := h7; exact exec_load_mid 84 (.tmp 48) rfl _ b3 (n * 14) [.int .i64 q.y.x.id, .int .i64 q.y.x.ent, .int .i64 q.y.x.date, .int .i64 q.y.x.kind, .int .i64 q.y.x.of_, .string q.y.x.text, .slice q.y.a q.y.x.lines.length q.y.c, .int .i64 q.l.acc, .int .i64 q.l.amt, .int .i64 q.l.ptn, .int .i64 q.y.x.id, .int .i64 q.k, .int .i64 q.i, .int .i64 q.k] h7 (HRQ.out _ hR) Try.underlying84 rfl rpSize))
                    | (refine Steps.skip rfl (fun f w' hR hV => ?_) ?_
                       · (obtain ⟨h4, _, _⟩ := hV; replace h4 : f 4 = _ := h4; first | exact want_no (t := 45) rfl (by kernel_rfl) rfl h4 rfl | exact want_undef (t := 45) rfl (by kernel_rfl) rfl h4))
                  all_goals first
                    | (refine Steps.pure (v := .agg #[.int .i64 p.y.x.id, .int .i64 p.y.x.ent, .int .i64 p.y.x.date, .int .i64 p.y.x.kind, .int .i64 p.y.x.of_, .string p.y.x.text, .slice p.y.a p.y.x.lines.length p.y.c, .int .i64 p.l.acc, .int .i64 p.l.amt, .int .i64 p.l.ptn, .int .i64 p.y.x.id, .int .i64 p.k, .int .i64 p.i, .int .i64 p.k]) Keeps.refl rfl (fun f w' hR hV => ⟨?_, ?_⟩) ?_
                       · (obtain ⟨h4, _⟩ := hV; replace h4 : f 4 = _ := h4; exact want_yes (t := 45) rfl (by kernel_rfl) rfl h4)
                       · (obtain ⟨h4, _⟩ := hV; replace h4 : f 4 = _ := h4; exact exec_load_mid 84 (.tmp 7) rfl _ wb.heap.size 0 [.int .i64 p.y.x.id, .int .i64 p.y.x.ent, .int .i64 p.y.x.date, .int .i64 p.y.x.kind, .int .i64 p.y.x.of_, .string p.y.x.text, .slice p.y.a p.y.x.lines.length p.y.c, .int .i64 p.l.acc, .int .i64 p.l.amt, .int .i64 p.l.ptn, .int .i64 p.y.x.id, .int .i64 p.k, .int .i64 p.i, .int .i64 p.k] rfl (HRP.out _ hR) Try.underlying84 rfl rpSize))
                    | (refine Steps.skip rfl (fun f w' hR hV => ?_) ?_
                       · (obtain ⟨h4, _⟩ := hV; replace h4 : f 4 = _ := h4; first | exact want_no (t := 45) rfl (by kernel_rfl) rfl h4 rfl | exact want_undef (t := 45) rfl (by kernel_rfl) rfl h4))
                  all_goals first
                    | (refine Steps.call (fun _ v => v = .bool true) rfl (fun _ _ _ _ h => h) (fun f w' hR hV => ⟨?_, ?_⟩) ?_
                       · (obtain ⟨h4, _, _, _⟩ := hV; replace h4 : f 4 = _ := h4; exact want_yes (t := 45) rfl (by kernel_rfl) rfl h4)
                       · (obtain ⟨h4, h8, h9, _⟩ := hV; replace h4 : f 4 = _ := h4; replace h8 : f 8 = _ := h8; replace h9 : f 9 = _ := h9; go_simp; go_at_call 57; refine (HLS.out _).mono ?_; rintro e w2 ⟨rfl, hk2⟩; exact StepPost.of _ rfl rfl hk2))
                    | (refine Steps.skip rfl (fun f w' hR hV => ?_) ?_
                       · (obtain ⟨h4, _, _, _⟩ := hV; replace h4 : f 4 = _ := h4; first | exact want_no (t := 45) rfl (by kernel_rfl) rfl h4 rfl | exact want_undef (t := 45) rfl (by kernel_rfl) rfl h4))
                  all_goals (
                    refine Steps.pure (v := ?_) Keeps.refl rfl (fun f w' hR hV => ⟨?_, ?_⟩) ?_
                    rotate_left
                    · (rfl)
                    · (obtain ⟨h4, h10, _⟩ := hV; replace h4 : f 4 = _ := h4; replace h10 : f 10 = _ := h10; go_simp; all_goals (try with_reducible rfl)))
                  all_goals (refine Steps.done [11] (by kernel_rfl) rfl (fun f wq hR hV => ?_); obtain ⟨h11, _⟩ := hV; replace h11 : f 11 = _ := h11; simp only [h11])
                  go_wp2_with fail
                  go_roundw
                  case rel => exact ⟨n + 1, by omega, by go_num, Lib.hid (HKN.out.trans ((Keeps.refl wd).drew.trans hR)), HB5⟩
                  case measure => simp [intOf]; omega
                | false =>
                  rw [hc] at hls
                  have HLS := Lib.hid hls
                  have HP := Lib.hid (insR_at hnM HB4.out (fun h => by rw [hq]; exact of_decide_eq_false hc))
                  clear hls hc hq
                  go_wp2_with fail
                  refine wp_region_steps (A := ?_) Keeps [some 41, some 42, some 43, some 44, some 45, some 46, some 47, some 48, some 49, some 50, some 51, some 52] [[], [], [1], [0, 2], [3], [4], [4], [4, 5, 6], [4, 7], [4], [4, 8, 9], [4, 10]] 12 (by kernel_rfl) (by kernel_rfl) (by kernel_rfl) (by kernel_rfl) (by kernel_rfl) (by kernel_rfl) Keeps.refl (fun _ _ _ => Keeps.trans) ?_ ?_
                  rotate_left
                  · intro f; simp only [putL, Act.put, List.setIfInBounds_toArray, List.set_cons_zero, List.set_cons_succ, Nat.zero_add, Nat.reduceAdd]; exact rfl
                  refine Steps.pure (v := ?_) Keeps.refl rfl (fun f w' hR hV => ⟨?_, ?_⟩) ?_
                  rotate_left
                  · (rfl)
                  · (clear hV; go_simp; all_goals (try with_reducible rfl))
                  refine Steps.pure (v := ?_) Keeps.refl rfl (fun f w' hR hV => ⟨?_, ?_⟩) ?_
                  rotate_left
                  · (rfl)
                  · (clear hV; go_simp; all_goals (try with_reducible rfl))
                  refine Steps.pure (v := ?_) Keeps.refl rfl (fun f w' hR hV => ⟨?_, ?_⟩) ?_
                  rotate_left
                  · (rfl)
                  · (obtain ⟨h1, _⟩ := hV; replace h1 : f 1 = _ := h1; go_simp; all_goals (try with_reducible rfl))
                  refine Steps.pure (v := ?_) Keeps.refl rfl (fun f w' hR hV => ⟨?_, ?_⟩) ?_
                  rotate_left
                  · (rfl)
                  · (obtain ⟨h0, h2, _⟩ := hV; replace h0 : f 0 = _ := h0; replace h2 : f 2 = _ := h2; go_simp; all_goals (try with_reducible rfl))
                  refine Steps.pure (v := ?_) Keeps.refl rfl (fun f w' hR hV => ⟨?_, ?_⟩) ?_
                  rotate_left
                  · (rfl)
                  · (obtain ⟨h3, _⟩ := hV; replace h3 : f 3 = _ := h3; go_simp; all_goals (try with_reducible rfl))
                  all_goals first
                    | (refine Steps.pure (v := ?_) Keeps.refl rfl (fun f w' hR hV => ⟨?_, ?_⟩) ?_
                       rotate_left
                       · (obtain ⟨h4, _⟩ := hV; replace h4 : f 4 = _ := h4; exact want_yes (t := 45) rfl (by kernel_rfl) rfl h4)
                       · (obtain ⟨h4, _⟩ := hV; replace h4 : f 4 = _ := h4; go_simp; all_goals (try with_reducible rfl)))
                    | (refine Steps.skip rfl (fun f w' hR hV => ?_) ?_
                       · (obtain ⟨h4, _⟩ := hV; replace h4 : f 4 = _ := h4; first | exact want_no (t := 45) rfl (by kernel_rfl) rfl h4 rfl | exact want_undef (t := 45) rfl (by kernel_rfl) rfl h4))
                  all_goals first
                    | (refine Steps.pure (v := ?_) Keeps.refl rfl (fun f w' hR hV => ⟨?_, ?_⟩) ?_
                       rotate_left
                       · (obtain ⟨h4, _⟩ := hV; replace h4 : f 4 = _ := h4; exact want_yes (t := 45) rfl (by kernel_rfl) rfl h4)
                       · (obtain ⟨h4, _⟩ := hV; replace h4 : f 4 = _ := h4; go_simp; all_goals (try with_reducible rfl)))
                    | (refine Steps.skip rfl (fun f w' hR hV => ?_) ?_
                       · (obtain ⟨h4, _⟩ := hV; replace h4 : f 4 = _ := h4; first | exact want_no (t := 45) rfl (by kernel_rfl) rfl h4 rfl | exact want_undef (t := 45) rfl (by kernel_rfl) rfl h4))
                  all_goals first
                    | (refine Steps.pure (v := ?_) Keeps.refl rfl (fun f w' hR hV => ⟨?_, ?_⟩) ?_
                       rotate_left
                       · (obtain ⟨h4, _, _, _⟩ := hV; replace h4 : f 4 = _ := h4; exact want_yes (t := 45) rfl (by kernel_rfl) rfl h4)
                       · (obtain ⟨h4, h5, h6, _⟩ := hV; replace h4 : f 4 = _ := h4; replace h5 : f 5 = _ := h5; replace h6 : f 6 = _ := h6; go_simp; all_goals (try with_reducible rfl)))
                    | (refine Steps.skip rfl (fun f w' hR hV => ?_) ?_
                       · (obtain ⟨h4, _, _, _⟩ := hV; replace h4 : f 4 = _ := h4; first | exact want_no (t := 45) rfl (by kernel_rfl) rfl h4 rfl | exact want_undef (t := 45) rfl (by kernel_rfl) rfl h4))
                  all_goals first
                    | (refine Steps.pure (v := .agg #[.int .i64 q.y.x.id, .int .i64 q.y.x.ent, .int .i64 q.y.x.date, .int .i64 q.y.x.kind, .int .i64 q.y.x.of_, .string q.y.x.text, .slice q.y.a q.y.x.lines.length q.y.c, .int .i64 q.l.acc, .int .i64 q.l.amt, .int .i64 q.l.ptn, .int .i64 q.y.x.id, .int .i64 q.k, .int .i64 q.i, .int .i64 q.k]) Keeps.refl rfl (fun f w' hR hV => ⟨?_, ?_⟩) ?_
                       · (obtain ⟨h4, _, _⟩ := hV; replace h4 : f 4 = _ := h4; exact want_yes (t := 45) rfl (by kernel_rfl) rfl h4)
                       · (obtain ⟨h4, h7, _⟩ := hV; replace h4 : f 4 = _ := h4; replace h7 : f 7 = _ := h7; exact exec_load_mid 84 (.tmp 48) rfl _ b3 (n * 14) [.int .i64 q.y.x.id, .int .i64 q.y.x.ent, .int .i64 q.y.x.date, .int .i64 q.y.x.kind, .int .i64 q.y.x.of_, .string q.y.x.text, .slice q.y.a q.y.x.lines.length q.y.c, .int .i64 q.l.acc, .int .i64 q.l.amt, .int .i64 q.l.ptn, .int .i64 q.y.x.id, .int .i64 q.k, .int .i64 q.i, .int .i64 q.k] h7 (HRQ.out _ hR) Try.underlying84 rfl rpSize))
                    | (refine Steps.skip rfl (fun f w' hR hV => ?_) ?_
                       · (obtain ⟨h4, _, _⟩ := hV; replace h4 : f 4 = _ := h4; first | exact want_no (t := 45) rfl (by kernel_rfl) rfl h4 rfl | exact want_undef (t := 45) rfl (by kernel_rfl) rfl h4))
                  all_goals first
                    | (refine Steps.pure (v := .agg #[.int .i64 p.y.x.id, .int .i64 p.y.x.ent, .int .i64 p.y.x.date, .int .i64 p.y.x.kind, .int .i64 p.y.x.of_, .string p.y.x.text, .slice p.y.a p.y.x.lines.length p.y.c, .int .i64 p.l.acc, .int .i64 p.l.amt, .int .i64 p.l.ptn, .int .i64 p.y.x.id, .int .i64 p.k, .int .i64 p.i, .int .i64 p.k]) Keeps.refl rfl (fun f w' hR hV => ⟨?_, ?_⟩) ?_
                       · (obtain ⟨h4, _⟩ := hV; replace h4 : f 4 = _ := h4; exact want_yes (t := 45) rfl (by kernel_rfl) rfl h4)
                       · (obtain ⟨h4, _⟩ := hV; replace h4 : f 4 = _ := h4; exact exec_load_mid 84 (.tmp 7) rfl _ wb.heap.size 0 [.int .i64 p.y.x.id, .int .i64 p.y.x.ent, .int .i64 p.y.x.date, .int .i64 p.y.x.kind, .int .i64 p.y.x.of_, .string p.y.x.text, .slice p.y.a p.y.x.lines.length p.y.c, .int .i64 p.l.acc, .int .i64 p.l.amt, .int .i64 p.l.ptn, .int .i64 p.y.x.id, .int .i64 p.k, .int .i64 p.i, .int .i64 p.k] rfl (HRP.out _ hR) Try.underlying84 rfl rpSize))
                    | (refine Steps.skip rfl (fun f w' hR hV => ?_) ?_
                       · (obtain ⟨h4, _⟩ := hV; replace h4 : f 4 = _ := h4; first | exact want_no (t := 45) rfl (by kernel_rfl) rfl h4 rfl | exact want_undef (t := 45) rfl (by kernel_rfl) rfl h4))
                  all_goals first
                    | (refine Steps.call (fun _ v => v = .bool false) rfl (fun _ _ _ _ h => h) (fun f w' hR hV => ⟨?_, ?_⟩) ?_
                       · (obtain ⟨h4, _, _, _⟩ := hV; replace h4 : f 4 = _ := h4; exact want_yes (t := 45) rfl (by kernel_rfl) rfl h4)
                       · (obtain ⟨h4, h8, h9, _⟩ := hV; replace h4 : f 4 = _ := h4; replace h8 : f 8 = _ := h8; replace h9 : f 9 = _ := h9; go_simp; go_at_call 57; refine (HLS.out _).mono ?_; rintro e w2 ⟨rfl, hk2⟩; exact StepPost.of _ rfl rfl hk2))
                    | (refine Steps.skip rfl (fun f w' hR hV => ?_) ?_
                       · (obtain ⟨h4, _, _, _⟩ := hV; replace h4 : f 4 = _ := h4; first | exact want_no (t := 45) rfl (by kernel_rfl) rfl h4 rfl | exact want_undef (t := 45) rfl (by kernel_rfl) rfl h4))
                  all_goals (
                    refine Steps.pure (v := ?_) Keeps.refl rfl (fun f w' hR hV => ⟨?_, ?_⟩) ?_
                    rotate_left
                    · (rfl)
                    · (obtain ⟨h4, h10, _⟩ := hV; replace h4 : f 4 = _ := h4; replace h10 : f 10 = _ := h10; go_simp; all_goals (try with_reducible rfl)))
                  all_goals (refine Steps.done [11] (by kernel_rfl) rfl (fun f wq hR hV => ?_); obtain ⟨h11, _⟩ := hV; replace h11 : f 11 = _ := h11; simp only [h11])
                  have HKZ := Lib.hid (HKN.out.trans ((Keeps.refl wd).drew.trans hR))
                  obtain ⟨wz, rfl⟩ : ∃ wz : World, wz = wq := ⟨_, rfl⟩
                  clear hR HRQ HRP HLS
                  go_upto_region 13 with (fail)
                  have HSZ : Hid (Sl wz 14 ao3 M.length cap3 b3 0 (M.flatMap RP.cells)) := Lib.hid (HS3.out.keeps (HKC.out.trans HKZ.out))
                  have HPZ : Hid (∀ W, Keeps wz W → BoxP W wb.heap.size p) := Lib.hid (fun W hW => HPB.out W (HKZ.out.trans hW))
                  obtain ⟨ao5, hcf, hs5⟩ := Sl.cutFrom HSZ.out Try.underlying81 Try.sizeOf84 n hnM
                  have hct := run_cutTo Try.underlying81 Try.sizeOf84 ao3 M.length cap3 n (by omega) hcap3
                  have HS5 := Lib.hid hs5
                  have HS1 := Lib.hid (Sl.take HSZ.out n hnM)
                  have HO1 : Hid (∀ u ∈ (M.flatMap RP.cells).take (n * 14), u.oneCell' = true) := Lib.hid (fun u hu => ones_rp M u (List.mem_of_mem_take hu))
                  have HO2 : Hid (∀ u ∈ (M.flatMap RP.cells).drop (n * 14), u.oneCell' = true) := Lib.hid (fun u hu => ones_rp M u (List.mem_of_mem_drop hu))
                  have hu84 := Try.underlying84
                  have hi84 : (Try.prog.info? 84).map (·.size) = some ([.int .i64 p.y.x.id, .int .i64 p.y.x.ent, .int .i64 p.y.x.date, .int .i64 p.y.x.kind, .int .i64 p.y.x.of_, .string p.y.x.text, .slice p.y.a p.y.x.lines.length p.y.c, .int .i64 p.l.acc, .int .i64 p.l.amt, .int .i64 p.l.ptn, .int .i64 p.y.x.id, .int .i64 p.k, .int .i64 p.i, .int .i64 p.k] : List Value).length := rpSize
                  clear hs5
                  go_region_held3 (fun w' => w'.cell? ⟨wb.heap.size, 0, none⟩ = some (.int .i64 p.y.x.id) ∧ w'.cell? ⟨wb.heap.size, 1, none⟩ = some (.int .i64 p.y.x.ent) ∧ w'.cell? ⟨wb.heap.size, 2, none⟩ = some (.int .i64 p.y.x.date) ∧ w'.cell? ⟨wb.heap.size, 3, none⟩ = some (.int .i64 p.y.x.kind) ∧ w'.cell? ⟨wb.heap.size, 4, none⟩ = some (.int .i64 p.y.x.of_) ∧ w'.cell? ⟨wb.heap.size, 5, none⟩ = some (.string p.y.x.text) ∧ w'.cell? ⟨wb.heap.size, 6, none⟩ = some (.slice p.y.a p.y.x.lines.length p.y.c) ∧ w'.cell? ⟨wb.heap.size, 7, none⟩ = some (.int .i64 p.l.acc) ∧ w'.cell? ⟨wb.heap.size, 8, none⟩ = some (.int .i64 p.l.amt) ∧ w'.cell? ⟨wb.heap.size, 9, none⟩ = some (.int .i64 p.l.ptn) ∧ w'.cell? ⟨wb.heap.size, 10, none⟩ = some (.int .i64 p.y.x.id) ∧ w'.cell? ⟨wb.heap.size, 11, none⟩ = some (.int .i64 p.k) ∧ w'.cell? ⟨wb.heap.size, 12, none⟩ = some (.int .i64 p.i) ∧ w'.cell? ⟨wb.heap.size, 13, none⟩ = some (.int .i64 p.k))
                    (first | exact boxP_cells (HPZ.out _ hk3) | exact boxP_cells (HPZ.out _ hk2) | exact boxP_cells (HPZ.out _ hk1) | exact boxP_cells (HPZ.out _ (hk1.alloc _)) | exact boxP_cells (HPZ.out _ (Keeps.refl wz).drew) | exact boxP_cells (HPZ.out _ ((Keeps.refl wz).alloc _).drew) | exact boxP_cells (HPZ.out _ (((Keeps.refl wz).alloc _).alloc _).drew))
                    (first | (guard_hyp hown2 : _; refine step_all_raw elemRP rfl (.tmp 62) (.tmp 65) rfl v2 (n + 1) _ (by rfl) wz.heap.size hown2 hz2 ao5 (M.length - n) (cap3 - n) b3 (0 + n * 14) ((M.flatMap RP.cells).drop (n * 14)) (by rfl) (HS5.out.keeps hk2) HO2.out (by omega) (by omega) ?_; intro v3 w3 hown3 hgrow3 hat3; have hk3 : Keeps wz w3 := Below.grown hk2 hgrow3 hk2.size (fun j hj => (hown2.lt j hj).1)) | (guard_hyp hown1 : _; refine step_all_raw elemRP rfl (.tmp 59) (.tmp 61) rfl v1 n _ (by rfl) wz.heap.size (by first | exact hown1 | exact hown1.alloc _) (by first | omega | (simp; omega)) _ 1 1 _ 0 [.int .i64 p.y.x.id, .int .i64 p.y.x.ent, .int .i64 p.y.x.date, .int .i64 p.y.x.kind, .int .i64 p.y.x.of_, .string p.y.x.text, .slice p.y.a p.y.x.lines.length p.y.c, .int .i64 p.l.acc, .int .i64 p.l.amt, .int .i64 p.l.ptn, .int .i64 p.y.x.id, .int .i64 p.k, .int .i64 p.i, .int .i64 p.k] (by rfl) (by exact Sl.block rfl (fun j u hj => by first | exact cell_newx (by simp) hj | (exact hgrow1.cell (cell_newx (by simp) hj) (by simp [Act.eval, Value.ownBlock])) | (exact hgrow1.cell (Keeps.cell ((Keeps.refl _).alloc _) (cell_newx (by simp) hj)) (by simp [Act.eval, Value.ownBlock])))) (RP.one p) (by omega) (by omega) ?_; intro v2 w2 hown2 hgrow2 hat2; have hk2 : Keeps wz w2 := (by first | exact Below.grown hk1 hgrow2 hk1.size (fun j hj => (hown1.lt j hj).1) | exact Below.grown (Keeps.alloc hk1 _) hgrow2 (by simp; omega) (fun j hj => (hown1.lt j hj).1)); have hz2 := hk2.size) | (refine step_all_raw elemRP rfl (.tmp 55) (.tmp 58) rfl _ 0 [] (by rfl) wz.heap.size (by first | exact own_emptyx (by simp) (by simp) | exact (own_emptyx (by simp) (by simp)).alloc _) (by first | (simp; done) | (simp; omega)) ao3 n cap3 b3 0 ((M.flatMap RP.cells).take (n * 14)) (by rfl) (by first | exact HS1.out.keeps ((Keeps.refl wz).alloc _).drew | exact HS1.out.keeps (((Keeps.refl wz).alloc _).alloc _).drew) HO1.out (by omega) (by omega) ?_; intro v1 w1 hown1 hgrow1 hat1; rw [Nat.zero_add, List.nil_append] at hown1; have hk1 : Keeps wz w1 := (by first | exact Below.grown ((Keeps.refl wz).alloc _).drew hgrow1 (by first | (simp; done) | (simp; omega)) (fun j hj => by simp [Act.eval, Value.ownBlock] at hj; omega) | exact Below.grown (((Keeps.refl wz).alloc _).alloc _).drew hgrow1 (by first | (simp; done) | (simp; omega)) (fun j hj => by simp [Act.eval, Value.ownBlock] at hj; omega)); have hz1 := hk1.size ))
                  all_goals
                    have HR3 : Hid (w3.ownsRow W1.heap.size 84 14 v3 (insR p M).length ((insR p M).flatMap RP.cells)) := Lib.hid (by
                      have h := own_baseP hown3 (Nat.le_trans (Nat.le_trans HK2.out.size HV.out.1.size) (Nat.le_trans HKC.out.size HKZ.out.size))
                      rw [show n + 1 + (M.length - n) = M.length + 1 from by omega] at h
                      have e2 : (insR p M).flatMap RP.cells = (M.flatMap RP.cells).take (n * 14) ++ p.cells ++ (M.flatMap RP.cells).drop (n * 14) := by
                        rw [HP.out, List.flatMap_append, List.flatMap_append, flat_takeP RP.len, flat_dropP RP.len]
                        simp
                      rw [insR_len, e2]; exact h)
                    have HKK := Lib.hid hk3
                    clear hown1 hgrow1 hat1 hk1 hz1 hown2 hgrow2 hat2 hk2 hz2 hown3 hgrow3 hat3 hk3
                    go_wp2_with fail
                    go_roundw
                    case rel => exact ⟨k + 1, insR p M, by omega, by rw [insR_len]; omega, by go_num, HM2, Lib.hid ⟨HV.out.1.trans (HKC.out.trans (HKZ.out.trans HKK.out)), HR3.out⟩⟩
                    case measure => simp [intOf]; omega
              · have HP := Lib.hid (insR_at (p := p) hnM HB4.out (fun h => absurd h hlt2))
                have hdl : decide ((n : Int) < (M.length : Int)) = false := by simp; omega
                go_wp2_with fail
                refine wp_region_steps (A := ?_) Keeps [some 41, some 42, some 43, some 44, some 45, some 46, some 47, some 48, some 49, some 50, some 51, some 52] [[], [], [1], [0, 2], [3], [4], [4], [4, 5, 6], [4, 7], [4], [4, 8, 9], [4, 10]] 12 (by kernel_rfl) (by kernel_rfl) (by kernel_rfl) (by kernel_rfl) (by kernel_rfl) (by kernel_rfl) Keeps.refl (fun _ _ _ => Keeps.trans) ?_ ?_
                rotate_left
                · intro f; simp only [putL, Act.put, List.setIfInBounds_toArray, List.set_cons_zero, List.set_cons_succ, Nat.zero_add, Nat.reduceAdd]; exact rfl
                refine Steps.pure (v := ?_) Keeps.refl rfl (fun f w' hR hV => ⟨?_, ?_⟩) ?_
                rotate_left
                · (rfl)
                · (clear hV; go_simp; all_goals (try with_reducible rfl))
                refine Steps.pure (v := ?_) Keeps.refl rfl (fun f w' hR hV => ⟨?_, ?_⟩) ?_
                rotate_left
                · (rfl)
                · (clear hV; go_simp; all_goals (try with_reducible rfl))
                refine Steps.pure (v := ?_) Keeps.refl rfl (fun f w' hR hV => ⟨?_, ?_⟩) ?_
                rotate_left
                · (rfl)
                · (obtain ⟨h1, _⟩ := hV; replace h1 : f 1 = _ := h1; go_simp; all_goals (try with_reducible rfl))
                refine Steps.pure (v := ?_) Keeps.refl rfl (fun f w' hR hV => ⟨?_, ?_⟩) ?_
                rotate_left
                · (rfl)
                · (obtain ⟨h0, h2, _⟩ := hV; replace h0 : f 0 = _ := h0; replace h2 : f 2 = _ := h2; go_simp; all_goals (try with_reducible rfl))
                refine Steps.pure (v := ?_) Keeps.refl rfl (fun f w' hR hV => ⟨?_, ?_⟩) ?_
                rotate_left
                · (rfl)
                · (obtain ⟨h3, _⟩ := hV; replace h3 : f 3 = _ := h3; go_simp; all_goals (try with_reducible rfl))
                all_goals first
                  | (refine Steps.pure (v := ?_) Keeps.refl rfl (fun f w' hR hV => ⟨?_, ?_⟩) ?_
                     rotate_left
                     · (obtain ⟨h4, _⟩ := hV; replace h4 : f 4 = _ := h4; exact want_yes (t := 45) rfl (by kernel_rfl) rfl h4)
                     · (obtain ⟨h4, _⟩ := hV; replace h4 : f 4 = _ := h4; go_simp; all_goals (try with_reducible rfl)))
                  | (refine Steps.skip rfl (fun f w' hR hV => ?_) ?_
                     · (obtain ⟨h4, _⟩ := hV; replace h4 : f 4 = _ := h4; first | exact want_no (t := 45) rfl (by kernel_rfl) rfl h4 rfl | exact want_undef (t := 45) rfl (by kernel_rfl) rfl h4))
                all_goals first
                  | (refine Steps.pure (v := ?_) Keeps.refl rfl (fun f w' hR hV => ⟨?_, ?_⟩) ?_
                     rotate_left
                     · (obtain ⟨h4, _⟩ := hV; replace h4 : f 4 = _ := h4; exact want_yes (t := 45) rfl (by kernel_rfl) rfl h4)
                     · (obtain ⟨h4, _⟩ := hV; replace h4 : f 4 = _ := h4; go_simp; all_goals (try with_reducible rfl)))
                  | (refine Steps.skip rfl (fun f w' hR hV => ?_) ?_
                     · (obtain ⟨h4, _⟩ := hV; replace h4 : f 4 = _ := h4; first | exact want_no (t := 45) rfl (by kernel_rfl) rfl h4 rfl | exact want_undef (t := 45) rfl (by kernel_rfl) rfl h4))
                all_goals first
                  | (refine Steps.pure (v := ?_) Keeps.refl rfl (fun f w' hR hV => ⟨?_, ?_⟩) ?_
                     rotate_left
                     · (obtain ⟨h4, _, _, _⟩ := hV; replace h4 : f 4 = _ := h4; exact want_yes (t := 45) rfl (by kernel_rfl) rfl h4)
                     · (obtain ⟨h4, h5, h6, _⟩ := hV; replace h4 : f 4 = _ := h4; replace h5 : f 5 = _ := h5; replace h6 : f 6 = _ := h6; go_simp; all_goals (try with_reducible rfl)))
                  | (refine Steps.skip rfl (fun f w' hR hV => ?_) ?_
                     · (obtain ⟨h4, _, _, _⟩ := hV; replace h4 : f 4 = _ := h4; first | exact want_no (t := 45) rfl (by kernel_rfl) rfl h4 rfl | exact want_undef (t := 45) rfl (by kernel_rfl) rfl h4))
                all_goals first
                  | (refine Steps.pure (v := ?_) Keeps.refl rfl (fun f w' hR hV => ⟨?_, ?_⟩) ?_
                     rotate_left
                     · (obtain ⟨h4, _, _⟩ := hV; replace h4 : f 4 = _ := h4; exact want_yes (t := 45) rfl (by kernel_rfl) rfl h4)
                     · (obtain ⟨h4, h7, _⟩ := hV; replace h4 : f 4 = _ := h4; replace h7 : f 7 = _ := h7; go_simp; all_goals (try with_reducible rfl)))
                  | (refine Steps.skip rfl (fun f w' hR hV => ?_) ?_
                     · (obtain ⟨h4, _, _⟩ := hV; replace h4 : f 4 = _ := h4; first | exact want_no (t := 45) rfl (by kernel_rfl) rfl h4 rfl | exact want_undef (t := 45) rfl (by kernel_rfl) rfl h4))
                all_goals first
                  | (refine Steps.pure (v := ?_) Keeps.refl rfl (fun f w' hR hV => ⟨?_, ?_⟩) ?_
                     rotate_left
                     · (obtain ⟨h4, _⟩ := hV; replace h4 : f 4 = _ := h4; exact want_yes (t := 45) rfl (by kernel_rfl) rfl h4)
                     · (obtain ⟨h4, _⟩ := hV; replace h4 : f 4 = _ := h4; go_simp; all_goals (try with_reducible rfl)))
                  | (refine Steps.skip rfl (fun f w' hR hV => ?_) ?_
                     · (obtain ⟨h4, _⟩ := hV; replace h4 : f 4 = _ := h4; first | exact want_no (t := 45) rfl (by kernel_rfl) rfl h4 rfl | exact want_undef (t := 45) rfl (by kernel_rfl) rfl h4))
                all_goals first
                  | (refine Steps.pure (v := ?_) Keeps.refl rfl (fun f w' hR hV => ⟨?_, ?_⟩) ?_
                     rotate_left
                     · (obtain ⟨h4, _, _, _⟩ := hV; replace h4 : f 4 = _ := h4; exact want_yes (t := 45) rfl (by kernel_rfl) rfl h4)
                     · (obtain ⟨h4, h8, h9, _⟩ := hV; replace h4 : f 4 = _ := h4; replace h8 : f 8 = _ := h8; replace h9 : f 9 = _ := h9; go_simp; all_goals (try with_reducible rfl)))
                  | (refine Steps.skip rfl (fun f w' hR hV => ?_) ?_
                     · (obtain ⟨h4, _, _, _⟩ := hV; replace h4 : f 4 = _ := h4; first | exact want_no (t := 45) rfl (by kernel_rfl) rfl h4 rfl | exact want_undef (t := 45) rfl (by kernel_rfl) rfl h4))
                all_goals (
                  refine Steps.pure (v := ?_) Keeps.refl rfl (fun f w' hR hV => ⟨?_, ?_⟩) ?_
                  rotate_left
                  · (rfl)
                  · (obtain ⟨h4, h10, _⟩ := hV; replace h4 : f 4 = _ := h4; replace h10 : f 10 = _ := h10; go_simp; all_goals (try with_reducible rfl)))
                all_goals (refine Steps.done [11] (by kernel_rfl) rfl (fun f wq hR hV => ?_); obtain ⟨h11, _⟩ := hV; replace h11 : f 11 = _ := h11; simp only [h11])
                have HKZ := Lib.hid (HKN.out.trans ((Keeps.refl wd).drew.trans hR))
                obtain ⟨wz, rfl⟩ : ∃ wz : World, wz = wq := ⟨_, rfl⟩
                clear hR
                go_upto_region 13 with (fail)
                have HSZ : Hid (Sl wz 14 ao3 M.length cap3 b3 0 (M.flatMap RP.cells)) := Lib.hid (HS3.out.keeps (HKC.out.trans HKZ.out))
                have HPZ : Hid (∀ W, Keeps wz W → BoxP W wb.heap.size p) := Lib.hid (fun W hW => HPB.out W (HKZ.out.trans hW))
                obtain ⟨ao5, hcf, hs5⟩ := Sl.cutFrom HSZ.out Try.underlying81 Try.sizeOf84 n hnM
                have hct := run_cutTo Try.underlying81 Try.sizeOf84 ao3 M.length cap3 n (by omega) hcap3
                have HS5 := Lib.hid hs5
                have HS1 := Lib.hid (Sl.take HSZ.out n hnM)
                have HO1 : Hid (∀ u ∈ (M.flatMap RP.cells).take (n * 14), u.oneCell' = true) := Lib.hid (fun u hu => ones_rp M u (List.mem_of_mem_take hu))
                have HO2 : Hid (∀ u ∈ (M.flatMap RP.cells).drop (n * 14), u.oneCell' = true) := Lib.hid (fun u hu => ones_rp M u (List.mem_of_mem_drop hu))
                have hu84 := Try.underlying84
                have hi84 : (Try.prog.info? 84).map (·.size) = some ([.int .i64 p.y.x.id, .int .i64 p.y.x.ent, .int .i64 p.y.x.date, .int .i64 p.y.x.kind, .int .i64 p.y.x.of_, .string p.y.x.text, .slice p.y.a p.y.x.lines.length p.y.c, .int .i64 p.l.acc, .int .i64 p.l.amt, .int .i64 p.l.ptn, .int .i64 p.y.x.id, .int .i64 p.k, .int .i64 p.i, .int .i64 p.k] : List Value).length := rpSize
                clear hs5
                go_region_held3 (fun w' => w'.cell? ⟨wb.heap.size, 0, none⟩ = some (.int .i64 p.y.x.id) ∧ w'.cell? ⟨wb.heap.size, 1, none⟩ = some (.int .i64 p.y.x.ent) ∧ w'.cell? ⟨wb.heap.size, 2, none⟩ = some (.int .i64 p.y.x.date) ∧ w'.cell? ⟨wb.heap.size, 3, none⟩ = some (.int .i64 p.y.x.kind) ∧ w'.cell? ⟨wb.heap.size, 4, none⟩ = some (.int .i64 p.y.x.of_) ∧ w'.cell? ⟨wb.heap.size, 5, none⟩ = some (.string p.y.x.text) ∧ w'.cell? ⟨wb.heap.size, 6, none⟩ = some (.slice p.y.a p.y.x.lines.length p.y.c) ∧ w'.cell? ⟨wb.heap.size, 7, none⟩ = some (.int .i64 p.l.acc) ∧ w'.cell? ⟨wb.heap.size, 8, none⟩ = some (.int .i64 p.l.amt) ∧ w'.cell? ⟨wb.heap.size, 9, none⟩ = some (.int .i64 p.l.ptn) ∧ w'.cell? ⟨wb.heap.size, 10, none⟩ = some (.int .i64 p.y.x.id) ∧ w'.cell? ⟨wb.heap.size, 11, none⟩ = some (.int .i64 p.k) ∧ w'.cell? ⟨wb.heap.size, 12, none⟩ = some (.int .i64 p.i) ∧ w'.cell? ⟨wb.heap.size, 13, none⟩ = some (.int .i64 p.k))
                  (first | exact boxP_cells (HPZ.out _ hk3) | exact boxP_cells (HPZ.out _ hk2) | exact boxP_cells (HPZ.out _ hk1) | exact boxP_cells (HPZ.out _ (hk1.alloc _)) | exact boxP_cells (HPZ.out _ (Keeps.refl wz).drew) | exact boxP_cells (HPZ.out _ ((Keeps.refl wz).alloc _).drew) | exact boxP_cells (HPZ.out _ (((Keeps.refl wz).alloc _).alloc _).drew))
                  (first | (guard_hyp hown2 : _; refine step_all_raw elemRP rfl (.tmp 62) (.tmp 65) rfl v2 (n + 1) _ (by rfl) wz.heap.size hown2 hz2 ao5 (M.length - n) (cap3 - n) b3 (0 + n * 14) ((M.flatMap RP.cells).drop (n * 14)) (by rfl) (HS5.out.keeps hk2) HO2.out (by omega) (by omega) ?_; intro v3 w3 hown3 hgrow3 hat3; have hk3 : Keeps wz w3 := Below.grown hk2 hgrow3 hk2.size (fun j hj => (hown2.lt j hj).1)) | (guard_hyp hown1 : _; refine step_all_raw elemRP rfl (.tmp 59) (.tmp 61) rfl v1 n _ (by rfl) wz.heap.size (by first | exact hown1 | exact hown1.alloc _) (by first | omega | (simp; omega)) _ 1 1 _ 0 [.int .i64 p.y.x.id, .int .i64 p.y.x.ent, .int .i64 p.y.x.date, .int .i64 p.y.x.kind, .int .i64 p.y.x.of_, .string p.y.x.text, .slice p.y.a p.y.x.lines.length p.y.c, .int .i64 p.l.acc, .int .i64 p.l.amt, .int .i64 p.l.ptn, .int .i64 p.y.x.id, .int .i64 p.k, .int .i64 p.i, .int .i64 p.k] (by rfl) (by exact Sl.block rfl (fun j u hj => by first | exact cell_newx (by simp) hj | (exact hgrow1.cell (cell_newx (by simp) hj) (by simp [Act.eval, Value.ownBlock])) | (exact hgrow1.cell (Keeps.cell ((Keeps.refl _).alloc _) (cell_newx (by simp) hj)) (by simp [Act.eval, Value.ownBlock])))) (RP.one p) (by omega) (by omega) ?_; intro v2 w2 hown2 hgrow2 hat2; have hk2 : Keeps wz w2 := (by first | exact Below.grown hk1 hgrow2 hk1.size (fun j hj => (hown1.lt j hj).1) | exact Below.grown (Keeps.alloc hk1 _) hgrow2 (by simp; omega) (fun j hj => (hown1.lt j hj).1)); have hz2 := hk2.size) | (refine step_all_raw elemRP rfl (.tmp 55) (.tmp 58) rfl _ 0 [] (by rfl) wz.heap.size (by first | exact own_emptyx (by simp) (by simp) | exact (own_emptyx (by simp) (by simp)).alloc _) (by first | (simp; done) | (simp; omega)) ao3 n cap3 b3 0 ((M.flatMap RP.cells).take (n * 14)) (by rfl) (by first | exact HS1.out.keeps ((Keeps.refl wz).alloc _).drew | exact HS1.out.keeps (((Keeps.refl wz).alloc _).alloc _).drew) HO1.out (by omega) (by omega) ?_; intro v1 w1 hown1 hgrow1 hat1; rw [Nat.zero_add, List.nil_append] at hown1; have hk1 : Keeps wz w1 := (by first | exact Below.grown ((Keeps.refl wz).alloc _).drew hgrow1 (by first | (simp; done) | (simp; omega)) (fun j hj => by simp [Act.eval, Value.ownBlock] at hj; omega) | exact Below.grown (((Keeps.refl wz).alloc _).alloc _).drew hgrow1 (by first | (simp; done) | (simp; omega)) (fun j hj => by simp [Act.eval, Value.ownBlock] at hj; omega)); have hz1 := hk1.size ))
                all_goals
                  have HR3 : Hid (w3.ownsRow W1.heap.size 84 14 v3 (insR p M).length ((insR p M).flatMap RP.cells)) := Lib.hid (by
                    have h := own_baseP hown3 (Nat.le_trans (Nat.le_trans HK2.out.size HV.out.1.size) (Nat.le_trans HKC.out.size HKZ.out.size))
                    rw [show n + 1 + (M.length - n) = M.length + 1 from by omega] at h
                    have e2 : (insR p M).flatMap RP.cells = (M.flatMap RP.cells).take (n * 14) ++ p.cells ++ (M.flatMap RP.cells).drop (n * 14) := by
                      rw [HP.out, List.flatMap_append, List.flatMap_append, flat_takeP RP.len, flat_dropP RP.len]
                      simp
                    rw [insR_len, e2]; exact h)
                  have HKK := Lib.hid hk3
                  clear hown1 hgrow1 hat1 hk1 hz1 hown2 hgrow2 hat2 hk2 hz2 hown3 hgrow3 hat3 hk3
                  go_wp2_with fail
                  go_roundw
                  case rel => exact ⟨k + 1, insR p M, by omega, by rw [insR_len]; omega, by go_num, HM2, Lib.hid ⟨HV.out.1.trans (HKC.out.trans (HKZ.out.trans HKK.out)), HR3.out⟩⟩
                  case measure => simp [intOf]; omega
        · obtain rfl : k = y.x.lines.length := by omega
          have HN := Lib.hid (HS.out M (by have := HM.out; rwa [List.take_length] at this))
          go_wp2_with fail
          go_roundw
          case rel => exact ⟨i + 1, M, by omega, by omega, by go_num, HN, Lib.hid ⟨HK2.out.trans HV.out.1, HV.out.2⟩⟩
          case measure => simp [intOf]; omega
    · obtain rfl : i = es.length := by omega
      have HF : Hid (R = rsort (rall 0 es)) := Lib.hid (by have := HR.out; rwa [List.take_length] at this)
      go_wp2_with fail
      go_ret
      refine ⟨_, rfl, ?_, HK0.out.trans HW.out.1⟩
      rw [← HF.out]
      exact own_baseP HW.out.2 HK0.out.size
end Go.Proofs.Ytfddhmhagijodaa
