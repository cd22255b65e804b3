/- slices.DeleteFunc at places with between's closure: the walk. -/
import Derived.Test.YtfddhmhagijodaaDelP
namespace Go.Proofs.Ytfddhmhagijodaa
open Go.RowKit Go.Shelf Go.Lib Go.Sort
set_option linter.unusedSimpArgs false
set_option linter.unusedVariables false

theorem setL_take : ∀ (vs : List Value) (xs : List Value) (s : Nat), (setL xs s vs).take s = xs.take s
  | [], xs, s => rfl
  | v :: vs, xs, s => by
    rw [setL]
    have h := setL_take vs (xs.set s v) (s + 1)
    have h2 := congrArg (List.take s) h
    rw [List.take_take, List.take_take, Nat.min_eq_left (by omega)] at h2
    rw [h2, List.take_set_of_le (by omega)]
theorem plcSize : (Try.prog.info? 75).map (·.size) = some 8 := by kernel_rfl
theorem wpList_plc_store {w : World} {ops : Array Oper} {rest : List Oper} {op : Oper} {a : Act} {Q : Exit → Act → World → Prop} (hgd : op.guard = none) (x y : Operand) (ho : op.op = .store 75 x y) (g s : Nat) (p : Plc)
    (hx : a.eval x = .pointer (some ⟨g, s, none⟩)) (hy : a.eval y = .agg #[.int .i64 p.eid, .int .i64 p.idx, .int .i64 p.date, .int .i64 p.at_, .int .i64 p.ent, .int .i64 p.acc, .int .i64 p.amt, .int .i64 p.ptn]) (ht : w.there g s 8)
    (h : ∀ w', w.setCells g s p.cells = w' → wpList Try.prog ops Q rest (a.put op.dst undef) w') : wpList Try.prog ops Q (op :: rest) a w :=
  wpList_store_mid hgd 75 x y ho g s p.cells.toArray hx hy ht plcSize (all_oneCell_toArray (Plc.one p)) (h _ rfl)
set_option maxRecDepth 100000 in
set_option maxHeartbeats 1000000 in
theorem del_any (be bp : Nat) (en pt : Int) (base g cap : Nat) (xs : List Plc) (w : World) (H : w.ownsRow base 75 8 (.slice (some ⟨g, 0, none⟩) xs.length cap) xs.length (xs.flatMap Plc.cells)) (hb : base ≤ w.heap.size) (hbe : be < base) (hbp : bp < base)
    (he : w.cell? ⟨be, 0, none⟩ = some (.int .i64 en)) (hp : w.cell? ⟨bp, 0, none⟩ = some (.int .i64 pt)) :
    Calls Try.prog 45 #[.slice (some ⟨g, 0, none⟩) xs.length cap, .func (.func 46) #[] #[.pointer (some ⟨be, 0, none⟩), .pointer (some ⟨bp, 0, none⟩)]] w
      fun e w' => ∃ v, e = .returned v ∧ w'.ownsRow base 75 8 v (xs.filter (fun p => !outsB en pt p)).length ((xs.filter (fun p => !outsB en pt p)).flatMap Plc.cells) ∧ Below base w w' := by
  have HOWN := Lib.hid H
  have HI : Hid (Calls Try.prog 58 #[.slice (some ⟨g, 0, none⟩) xs.length cap, .func (.func 46) #[] #[.pointer (some ⟨be, 0, none⟩), .pointer (some ⟨bp, 0, none⟩)]] w (IdxPost w en pt xs)) := Lib.hid (by
    obtain ⟨ao, c2, b, e, hs⟩ := Sl.own H
    simp only [Value.slice.injEq, true_and] at e
    obtain ⟨rfl, rfl⟩ := e
    exact idx_any be bp en pt _ xs _ b 0 w hs he hp)
  clear H
  go_enter Try.func45, Try.ntmps45
  go_wp2_with (go_at_call 58; refine HI.out.mono ?_; rintro e w1 ⟨hk1, k, hk, HZ, ⟨rfl, rfl⟩ | ⟨hkl, hob, rfl⟩⟩)
  · have HF : Hid (xs.filter (fun p => !outsB en pt p) = xs) := Lib.hid (by
      rw [List.filter_eq_self]
      intro q hq
      rw [List.take_length] at HZ
      simp [HZ q hq])
    clear HZ
    go_ret
    refine ⟨_, rfl, ?_, hk1.mono hb⟩
    rw [HF.out]
    exact own_keepsP HOWN.out hk1
  · have hle := HOWN.out.2
    have HS : Hid (((xs.take (k + 1)).filter (fun p => !outsB en pt p)) = xs.take k) := Lib.hid (by
      rw [take_snoc _ k hkl, List.filter_append, List.filter_cons, hob, List.filter_eq_self.2 (fun q hq => by simp [HZ q hq])]
      simp)
    clear hob HZ hle
    obtain ⟨_, c2, _, _, hs⟩ := Sl.own HOWN.out
    have h1 := hs.le
    have h2 := hs.cap
    clear hs
    have hwr : IntKind.i64.wrap ((k : Int) + 1) = (k : Int) + 1 := by
      have hx : (k : Int) + 1 ≤ 9223372036854775807 := by omega
      clear h1 h2
      rw [IntKind.wrap_i64]
      omega
    go_wp2_with fail
    have hkf : ((k : Int) == -1) = false := by simp
    rw [hkf]
    go_loopw [5, 6] (fun vi vj wr => ∃ (i j : Nat) (mid : List Plc), i < j ∧ j ≤ xs.length ∧ vi = .int .i64 i ∧ vj = .int .i64 j ∧ Hid (mid.length = j - i ∧ ((xs.take j).filter (fun p => !outsB en pt p)).length = i) ∧ Hid (Below base w wr ∧ base ≤ wr.heap.size ∧ wr.ownsRow base 75 8 (.slice (some ⟨g, 0, none⟩) xs.length cap) xs.length (((xs.take j).filter (fun p => !outsB en pt p) ++ mid ++ xs.drop j).flatMap Plc.cells))) (fun _ vj _ => xs.length - (intOf vj).toNat)
    case atStart => exact ⟨k, k + 1, [xs[k]], by omega, hkl, rfl, congrArg (Value.int .i64) (show wrap64 ((k : Int) + 1) = ((k + 1 : Nat) : Int) by unfold wrap64; omega), Lib.hid ⟨by simp, by rw [HS.out, List.length_take]; omega⟩, Lib.hid ⟨hk1.mono hb, Nat.le_trans hb hk1.size, by rw [HS.out, List.append_assoc, List.singleton_append, ← List.drop_eq_getElem_cons hkl, List.take_append_drop]; exact own_keepsP HOWN.out hk1⟩⟩
    case round =>
      obtain ⟨i, j, mid, hij, hj, rfl, rfl, HM, HV⟩ := hrel
      clear HS hwr hkl hk1 HI
      obtain ⟨L, HL⟩ : ∃ L, L = (xs.take j).filter (fun p => !outsB en pt p) ++ mid ++ xs.drop j := ⟨_, rfl⟩
      have hLn : L.length = xs.length := by rw [HL, List.length_append, List.length_append, HM.out.2, HM.out.1, List.length_drop]; omega
      have hbl : base ≤ wr.heap.size := HV.out.2.1
      have HOL : Hid (wr.ownsRow base 75 8 (.slice (some ⟨g, 0, none⟩) L.length cap) L.length (L.flatMap Plc.cells)) := Lib.hid (by rw [hLn, HL]; exact HV.out.2.2)
      have he2 : wr.cell? ⟨be, 0, none⟩ = some (.int .i64 en) := (HV.out.1.cell hbe).trans he
      have hp2 : wr.cell? ⟨bp, 0, none⟩ = some (.int .i64 pt) := (HV.out.1.cell hbp).trans hp
      by_cases hjl : j < xs.length
      · have hjL : j < L.length := by omega
        have hLj : L[j] = xs[j] := by
          have hl2 : ((xs.take j).filter (fun p => !outsB en pt p) ++ mid).length = j := by rw [List.length_append, HM.out.2, HM.out.1]; omega
          subst HL
          rw [List.getElem_append_right (by omega)]
          simp [hl2]
        obtain ⟨ao, c3, b, e3, hs⟩ := Sl.own HOL.out
        simp only [Value.slice.injEq, true_and] at e3
        obtain ⟨rfl, rfl⟩ := e3
        have hb0 := hs.addr (by omega)
        simp only [Option.some.injEq, Addr.mk.injEq, and_true] at hb0
        obtain ⟨rfl, _⟩ := hb0
        have hr : Recs wr 8 Plc.cells (some ⟨g, 0, none⟩) L cap g 0 := hs
        have hix := Sl.at hr Try.underlying72 Try.sizeOf75 j hjL
        have hixi := Sl.at hr Try.underlying72 Try.sizeOf75 i (by omega)
        obtain ⟨p, hpk⟩ : ∃ p, xs[j] = p := ⟨_, rfl⟩
        rw [hpk] at hLj
        have c0 := hr.cell Plc.len j hjL 0 (.int .i64 p.eid) (by rw [hLj]; rfl)
        have c1 := hr.cell Plc.len j hjL 1 (.int .i64 p.idx) (by rw [hLj]; rfl)
        have c2 := hr.cell Plc.len j hjL 2 (.int .i64 p.date) (by rw [hLj]; rfl)
        have c3 := hr.cell Plc.len j hjL 3 (.int .i64 p.at_) (by rw [hLj]; rfl)
        have c4 := hr.cell Plc.len j hjL 4 (.int .i64 p.ent) (by rw [hLj]; rfl)
        have c5 := hr.cell Plc.len j hjL 5 (.int .i64 p.acc) (by rw [hLj]; rfl)
        have c6 := hr.cell Plc.len j hjL 6 (.int .i64 p.amt) (by rw [hLj]; rfl)
        have c7 := hr.cell Plc.len j hjL 7 (.int .i64 p.ptn) (by rw [hLj]; rfl)
        simp only [Nat.add_zero, Nat.zero_add] at c0 c1 c2 c3 c4 c5 c6 c7 hix hixi
        have HB : Hid (∀ W, Keeps wr W → Calls Try.prog 46 #[.agg #[.int .i64 p.eid, .int .i64 p.idx, .int .i64 p.date, .int .i64 p.at_, .int .i64 p.ent, .int .i64 p.acc, .int .i64 p.amt, .int .i64 p.ptn], .pointer (some ⟨be, 0, none⟩), .pointer (some ⟨bp, 0, none⟩)] W
          fun e w' => e = .returned (.bool (outsB en pt p)) ∧ Keeps W w') := Lib.hid (fun W hW => between1_any p be bp en pt W (hW.cell he2) (hW.cell hp2))
        rw [hLn] at hix hixi
        have HP := Lib.hid hpk
        have hbx := hbl
        clear hr hpk he2 hp2 hs hbl
        cases hob : outsB en pt p with
        | true =>
          rw [hob] at HB
          have HQ : Hid ((xs.take (j + 1)).filter (fun p => !outsB en pt p) = (xs.take j).filter (fun p => !outsB en pt p) ∧ xs.drop j = p :: xs.drop (j + 1)) := Lib.hid ⟨by rw [take_snoc _ j hjl, HP.out, List.filter_append, List.filter_cons, hob]; simp, by rw [List.drop_eq_getElem_cons hjl, HP.out]⟩
          clear hob hixi
          go_wp2_with (go_at_call 46; refine (HB.out _ ((Keeps.refl _).alloc _)).mono ?_; rintro e w2 ⟨rfl, hk2⟩)
          have hk3 : Keeps wr w2 := ((Keeps.refl wr).alloc _).trans hk2
          go_roundw
          case rel => exact ⟨i, j + 1, mid ++ [p], by omega, by omega, rfl, by go_num, Lib.hid ⟨by rw [List.length_append, HM.out.1, List.length_singleton]; omega, by rw [HQ.out.1]; exact HM.out.2⟩, Lib.hid ⟨HV.out.1.trans (hk3.mono hbx), Nat.le_trans hbx hk3.size, by have h := own_keepsP HV.out.2.2 hk3; rw [HQ.out.2] at h; rw [HQ.out.1]; simpa using h⟩⟩
          case measure => simp [intOf]; omega
        | false =>
          rw [hob] at HB
          obtain ⟨m0, mt, hmid⟩ : ∃ m0 mt, mid = m0 :: mt := by
            cases hm : mid with
            | nil => have := HM.out.1; rw [hm] at this; simp at this; omega
            | cons m0 mt => exact ⟨m0, mt, rfl⟩
          have HQ : Hid ((xs.take (j + 1)).filter (fun p => !outsB en pt p) = (xs.take j).filter (fun p => !outsB en pt p) ++ [p] ∧ xs.drop j = p :: xs.drop (j + 1) ∧ mid = m0 :: mt) := Lib.hid ⟨by rw [take_snoc _ j hjl, HP.out, List.filter_append, List.filter_cons, hob]; simp, by rw [List.drop_eq_getElem_cons hjl, HP.out], hmid⟩
          have HSC : Hid (∀ W, Keeps wr W → (W.setCells g (i * 8) p.cells).ownsRow base 75 8 (.slice (some ⟨g, 0, none⟩) xs.length cap) xs.length (((xs.take (j + 1)).filter (fun p => !outsB en pt p) ++ (mt ++ [p]) ++ xs.drop (j + 1)).flatMap Plc.cells) ∧ W.grownBy (W.setCells g (i * 8) p.cells) (some g)) := Lib.hid (fun W hW => by
            obtain ⟨h1, h2⟩ := own_setCells p.cells (i * 8) W _ (own_keepsP HV.out.2.2 hW)
            refine ⟨?_, h2⟩
            have e : setL (((xs.take j).filter (fun p => !outsB en pt p) ++ mid ++ xs.drop j).flatMap Plc.cells) (i * 8) p.cells = ((xs.take (j + 1)).filter (fun p => !outsB en pt p) ++ (mt ++ [p]) ++ xs.drop (j + 1)).flatMap Plc.cells := by
              rw [HQ.out.1, HQ.out.2.1, HQ.out.2.2]
              have := setL_app (mt.flatMap Plc.cells ++ (p :: xs.drop (j + 1)).flatMap Plc.cells) p.cells (((xs.take j).filter (fun p => !outsB en pt p)).flatMap Plc.cells) (i * 8) (by rw [flat_length Plc.len, HM.out.2]) m0.cells (by rw [Plc.len, Plc.len])
              simpa [List.flatMap_append] using this
            rw [← e]
            exact h1)
          have HTH : Hid (∀ W, Keeps wr W → W.there g (i * 8) 8) := Lib.hid (fun W hW => own_there (own_keepsP HV.out.2.2 hW) (i * 8) 8 (by omega))
          have hgb : base ≤ g := (HV.out.2.2.lt g rfl).1
          clear hob hmid
          go_wp2_with (first | (go_at_call 46; refine (HB.out _ ((Keeps.refl _).alloc _)).mono ?_; rintro e w2 ⟨rfl, hk2⟩; have e0 := hk2.cell (p := ⟨wr.heap.size, 0, none⟩) (v := .int .i64 p.eid) (by go_simp); have e1 := hk2.cell (p := ⟨wr.heap.size, 1, none⟩) (v := .int .i64 p.idx) (by go_simp); have e2 := hk2.cell (p := ⟨wr.heap.size, 2, none⟩) (v := .int .i64 p.date) (by go_simp); have e3 := hk2.cell (p := ⟨wr.heap.size, 3, none⟩) (v := .int .i64 p.at_) (by go_simp); have e4 := hk2.cell (p := ⟨wr.heap.size, 4, none⟩) (v := .int .i64 p.ent) (by go_simp); have e5 := hk2.cell (p := ⟨wr.heap.size, 5, none⟩) (v := .int .i64 p.acc) (by go_simp); have e6 := hk2.cell (p := ⟨wr.heap.size, 6, none⟩) (v := .int .i64 p.amt) (by go_simp); have e7 := hk2.cell (p := ⟨wr.heap.size, 7, none⟩) (v := .int .i64 p.ptn) (by go_simp); have hk3 : Keeps wr w2 := ((Keeps.refl wr).alloc _).trans hk2; have ht3 := HTH.out _ hk3) | (refine wpList_plc_store rfl (.tmp 33) (.tmp 32) rfl g (i * 8) p rfl rfl ht3 ?_; intro w4 hw4; clear ht3))
          obtain ⟨hs4, hg4⟩ := HSC.out _ hk3
          rw [hw4] at hs4 hg4
          have HS4 := Lib.hid hs4
          have HB4 : Hid (Below base w w4 ∧ base ≤ w4.heap.size) := Lib.hid ⟨(HV.out.1.trans (hk3.mono hbx)).grown hg4 (Nat.le_trans hbx hk3.size) (fun q hq => by cases hq; exact hgb), Nat.le_trans (Nat.le_trans hbx hk3.size) hg4.size⟩
          clear hs4 hg4 hw4 HSC HTH HB
          go_roundw
          case rel => exact ⟨i + 1, j + 1, mt ++ [p], by omega, by omega, by go_num, by go_num, Lib.hid ⟨by have := HM.out.1; rw [HQ.out.2.2, List.length_cons] at this; rw [List.length_append, List.length_singleton]; omega, by rw [HQ.out.1, List.length_append, HM.out.2]; rfl⟩, Lib.hid ⟨HB4.out.1, HB4.out.2, HS4.out⟩⟩
          case measure => simp [intOf]; omega
      · obtain rfl : j = xs.length := by omega
        rw [hLn] at HOL
        have hfe : Hid ((xs.filter (fun p => !outsB en pt p)).length = i ∧ (xs.filter (fun p => !outsB en pt p)).flatMap Plc.cells = (L.flatMap Plc.cells).take (i * 8)) := Lib.hid (by
          have hi2 := HM.out.2
          rw [List.take_length] at hi2
          refine ⟨hi2, ?_⟩
          rw [HL, List.take_length, List.drop_length, List.append_nil, List.flatMap_append, List.take_left' (by rw [flat_length Plc.len, hi2])])
        have hct := run_cutTo Try.underlying72 Try.sizeOf75 (some ⟨g, 0, none⟩) xs.length cap i (by omega) h2
        obtain ⟨_, c3, _, e3, hs⟩ := Sl.own HOL.out
        simp only [Value.slice.injEq, true_and] at e3
        obtain ⟨e31, rfl⟩ := e3
        obtain ⟨rfl⟩ := e31
        obtain ⟨ao5, hcf, hs5⟩ := Sl.cutFrom hs Try.underlying72 Try.sizeOf75 i (by omega)
        have ha5 := hs5.addr (by omega)
        have hab := hs.addr (by omega)
        simp only [Option.some.injEq, Addr.mk.injEq, and_true] at hab
        obtain ⟨rfl, _⟩ := hab
        subst ha5
        have hth : Hid (wr.there g (i * 8) ((xs.length - i) * 8)) := Lib.hid (own_there HOL.out (i * 8) ((xs.length - i) * 8) (by omega))
        have hgb : base ≤ g := (HOL.out.lt g rfl).1
        simp only [Nat.zero_add] at hcf
        clear hs hs5 he2 hp2 HL hLn
        go_wp2_with ((refine wpList_clearK rfl (.tmp 38) rfl Try.underlying72 Try.zeroValue75 (fun v hv => Plc.one ⟨0, 0, 0, 0, 0, 0, 0, 0⟩ v hv) g (i * 8) (xs.length - i) (cap - i) 8 rfl rfl (by omega) hth.out ?_); intro zs hzl)
        go_ret
        obtain ⟨ho5, hg5⟩ := own_setCells zs (i * 8) wr _ HOL.out
        have hc5 := own_cut ho5 i (by omega)
        have e5 : (setL (L.flatMap Plc.cells) (i * 8) zs).take (i * 8) = (L.flatMap Plc.cells).take (i * 8) := setL_take _ _ _
        rw [e5] at hc5
        refine ⟨_, rfl, ?_, HV.out.1.grown hg5 hbl (fun q hq => by cases hq; exact hgb)⟩
        rw [hfe.out.2, hfe.out.1]
        exact hc5
end Go.Proofs.Ytfddhmhagijodaa
