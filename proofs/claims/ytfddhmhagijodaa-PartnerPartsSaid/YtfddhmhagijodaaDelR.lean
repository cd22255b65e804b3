/- partner.Open$1: the walk; slices.IndexFunc at references with Open's closure: the walk; slices.DeleteFunc at references with Open's closure: the walk. -/
import Derived.Test.YtfddhmhagijodaaKeyR
import Derived.Test.YtfddhmhagijodaaDelW
namespace Go.Proofs.Ytfddhmhagijodaa
open Go.RowKit
set_option linter.unusedSimpArgs false
set_option linter.unusedVariables false

set_option maxHeartbeats 1000000 in
theorem open1_any (p : Rf) (bs mb mn : Nat) (M : Rf → Bool) (w : World) (he : w.cell? ⟨bs, 0, none⟩ = some (.map (some mb))) (hp : VMap refK w mb mn (setM M)) (hok : p.Ok) :
    Calls Try.prog 34 #[.agg #[.int .i64 p.e, .int .i64 p.l], .pointer (some ⟨bs, 0, none⟩)] w
      fun e w' => e = .returned (.bool (M p)) ∧ Keeps w w' := by
  have hbe := World.block_lt_of_cell? _ _ he
  simp only at hbe
  have hlk : (Instr.lookup 85 (.map (some mb)) (.agg #[.int .i64 p.e, .int .i64 p.l]) false).run Try.prog (w.alloc (.cells #[.int .i64 p.e, .int .i64 p.l] 59)) = .ok (.bool (M p)) (w.alloc (.cells #[.int .i64 p.e, .int .i64 p.l] 59)) := by
    have := (hp.alloc (.cells #[.int .i64 p.e, .int .i64 p.l] 59)).look Try.underlying85 (fun w => Try.zeroValue4 w) (a := p) hok _ rfl
    rw [setM_get] at this
    exact this
  clear hp
  go_enter Try.func34, Try.ntmps34
  go_wp2_with fail
  go_ret
  exact ⟨rfl, (Keeps.refl w).alloc _⟩
end Go.Proofs.Ytfddhmhagijodaa

namespace Go.Proofs.Ytfddhmhagijodaa
open Go.RowKit
set_option linter.unusedSimpArgs false
set_option linter.unusedVariables false

def IdxPostR (w : World) (M : Rf → Bool) (xs : List Rf) (e : Ending) (w' : World) : Prop :=
  Keeps w w' ∧ ∃ k : Nat, k ≤ xs.length ∧ (∀ p ∈ xs.take k, M p = false) ∧ ((k = xs.length ∧ e = .returned (.int .i64 (-1))) ∨ (∃ hk : k < xs.length, M xs[k] = true ∧ e = .returned (.int .i64 k)))
set_option maxHeartbeats 1000000 in
theorem idxr_any (bs mb mn : Nat) (M : Rf → Bool) (ao : Option Addr) (xs : List Rf) (cap b o : Nat) (w : World) (H : Recs w 2 Rf.cells ao xs cap b o) (he : w.cell? ⟨bs, 0, none⟩ = some (.map (some mb))) (hp : VMap refK w mb mn (setM M)) (hok : ∀ r ∈ xs, r.Ok) :
    Calls Try.prog 50 #[.slice ao xs.length cap, .func (.func 34) #[] #[.pointer (some ⟨bs, 0, none⟩)]] w (IdxPostR w M xs) := by
  have hcap := Sl.cap H
  have hle := Sl.le H
  have HH := Lib.hid H
  clear H
  go_enter Try.func50, Try.ntmps50
  go_wp2_with fail
  go_loopw [8] (fun vi wr => ∃ k : Nat, k ≤ xs.length ∧ vi = .int .i64 k ∧ Hid (Keeps w wr) ∧ Hid (∀ p ∈ xs.take k, M p = false)) (fun vi _ => xs.length - (intOf vi).toNat)
  case atStart => exact ⟨0, Nat.zero_le _, rfl, Lib.hid (Keeps.refl w), Lib.hid (by simp)⟩
  case round =>
    obtain ⟨k, hk, rfl, HK, HZ⟩ := hrel
    by_cases hlt : k < xs.length
    · have hr := HH.out.keeps HK.out
      have hix := Sl.at hr Try.underlying45 Try.sizeOf59 k hlt
      obtain ⟨p, hpk⟩ : ∃ p, xs[k] = p := ⟨_, rfl⟩
      have c0 := hr.cell Rf.len k hlt 0 (.int .i64 p.e) (by rw [hpk]; rfl)
      simp only [Nat.add_zero, Nat.zero_add] at c0 hix
      have c1 := hr.cell Rf.len k hlt 1 (.int .i64 p.l) (by rw [hpk]; rfl)
      have HB := Lib.hid (open1_any p bs mb mn M wr (HK.out.cell he) (hp.keeps HK.out) (by rw [← hpk]; exact hok _ (List.getElem_mem ..)))
      have HP := Lib.hid hpk
      clear hr hpk
      cases hob : M p with
      | true =>
        rw [hob] at HB
        have HO := Lib.hid hob
        clear hob
        go_wp2_with (go_at_call 34; refine HB.out.mono ?_; rintro e w1 ⟨rfl, hk1⟩)
        go_ret
        exact ⟨HK.out.trans hk1, k, hk, HZ.out, .inr ⟨hlt, by rw [HP.out]; exact HO.out, rfl⟩⟩
      | false =>
        rw [hob] at HB
        have HZ2 : Hid (∀ q ∈ xs.take (k + 1), M q = false) := Lib.hid (by
          rw [take_snoc _ k hlt]
          intro q hq
          rcases List.mem_append.1 hq with h | h
          · exact HZ.out q h
          · rw [List.mem_singleton] at h; rw [h, HP.out]; exact hob)
        clear hob
        go_wp2_with (go_at_call 34; refine HB.out.mono ?_; rintro e w1 ⟨rfl, hk1⟩)
        go_roundw
        case rel => exact ⟨k + 1, by omega, by go_num, Lib.hid (HK.out.trans hk1), HZ2⟩
        case measure => simp [intOf]; omega
    · obtain rfl : k = xs.length := by omega
      go_wp2_with fail
      go_ret
      exact ⟨HK.out, xs.length, Nat.le_refl _, HZ.out, .inl ⟨rfl, rfl⟩⟩
end Go.Proofs.Ytfddhmhagijodaa

namespace Go.Proofs.Ytfddhmhagijodaa
open Go.RowKit Go.Shelf Go.Lib Go.Sort
set_option linter.unusedSimpArgs false
set_option linter.unusedVariables false

theorem rfSize : (Try.prog.info? 59).map (·.size) = some 2 := by kernel_rfl
theorem wpList_rf_store {w : World} {ops : Array Oper} {rest : List Oper} {op : Oper} {a : Act} {Q : Exit → Act → World → Prop} (hgd : op.guard = none) (x y : Operand) (ho : op.op = .store 59 x y) (g s : Nat) (p : Rf)
    (hx : a.eval x = .pointer (some ⟨g, s, none⟩)) (hy : a.eval y = .agg #[.int .i64 p.e, .int .i64 p.l]) (ht : w.there g s 2)
    (h : ∀ w', w.setCells g s p.cells = w' → wpList Try.prog ops Q rest (a.put op.dst undef) w') : wpList Try.prog ops Q (op :: rest) a w :=
  wpList_store_mid hgd 59 x y ho g s p.cells.toArray hx hy ht rfSize (all_oneCell_toArray (Rf.one p)) (h _ rfl)
set_option maxRecDepth 100000 in
set_option maxHeartbeats 1000000 in
theorem delr_any (bs mb mn : Nat) (M : Rf → Bool) (base g cap : Nat) (xs : List Rf) (w : World) (H : w.ownsRow base 59 2 (.slice (some ⟨g, 0, none⟩) xs.length cap) xs.length (xs.flatMap Rf.cells)) (hb : base ≤ w.heap.size) (hbe : bs < base) (hbp : mb < base)
    (he : w.cell? ⟨bs, 0, none⟩ = some (.map (some mb))) (hp : VMap refK w mb mn (setM M)) (hok : ∀ r ∈ xs, r.Ok) :
    Calls Try.prog 33 #[.slice (some ⟨g, 0, none⟩) xs.length cap, .func (.func 34) #[] #[.pointer (some ⟨bs, 0, none⟩)]] w
      fun e w' => ∃ v, e = .returned v ∧ w'.ownsRow base 59 2 v (xs.filter (fun p => !M p)).length ((xs.filter (fun p => !M p)).flatMap Rf.cells) ∧ Below base w w' := by
  have HOWN := Lib.hid H
  have HI : Hid (Calls Try.prog 50 #[.slice (some ⟨g, 0, none⟩) xs.length cap, .func (.func 34) #[] #[.pointer (some ⟨bs, 0, none⟩)]] w (IdxPostR w M xs)) := Lib.hid (by
    obtain ⟨ao, c2, b, e, hs⟩ := Sl.own H
    simp only [Value.slice.injEq, true_and] at e
    obtain ⟨rfl, rfl⟩ := e
    exact idxr_any bs mb mn M _ xs _ b 0 w hs he hp hok)
  clear H
  go_enter Try.func33, Try.ntmps33
  go_wp2_with (go_at_call 50; refine HI.out.mono ?_; rintro e w1 ⟨hk1, k, hk, HZ, ⟨rfl, rfl⟩ | ⟨hkl, hob, rfl⟩⟩)
  · have HF : Hid (xs.filter (fun p => !M p) = xs) := Lib.hid (by
      rw [List.filter_eq_self]
      intro q hq
      rw [List.take_length] at HZ
      simp [HZ q hq])
    clear HZ
    go_ret
    refine ⟨_, rfl, ?_, hk1.mono hb⟩
    rw [HF.out]
    exact own_keepsP HOWN.out hk1
  · have hle := HOWN.out.2
    have HS : Hid (((xs.take (k + 1)).filter (fun p => !M p)) = xs.take k) := Lib.hid (by
      rw [take_snoc _ k hkl, List.filter_append, List.filter_cons, hob, List.filter_eq_self.2 (fun q hq => by simp [HZ q hq])]
      simp)
    clear hob HZ hle
    obtain ⟨_, c2, _, _, hs⟩ := Sl.own HOWN.out
    have h1 := hs.le
    have h2 := hs.cap
    clear hs
    have hwr : IntKind.i64.wrap ((k : Int) + 1) = (k : Int) + 1 := by
      have hx : (k : Int) + 1 ≤ 9223372036854775807 := by omega
      clear h1 h2
      rw [IntKind.wrap_i64]
      omega
    go_wp2_with fail
    have hkf : ((k : Int) == -1) = false := by simp
    rw [hkf]
    go_loopw [5, 6] (fun vi vj wr => ∃ (i j : Nat) (mid : List Rf), i < j ∧ j ≤ xs.length ∧ vi = .int .i64 i ∧ vj = .int .i64 j ∧ Hid (mid.length = j - i ∧ ((xs.take j).filter (fun p => !M p)).length = i) ∧ Hid (Below base w wr ∧ base ≤ wr.heap.size ∧ wr.ownsRow base 59 2 (.slice (some ⟨g, 0, none⟩) xs.length cap) xs.length (((xs.take j).filter (fun p => !M p) ++ mid ++ xs.drop j).flatMap Rf.cells))) (fun _ vj _ => xs.length - (intOf vj).toNat)
    case atStart => exact ⟨k, k + 1, [xs[k]], by omega, hkl, rfl, congrArg (Value.int .i64) (show wrap64 ((k : Int) + 1) = ((k + 1 : Nat) : Int) by unfold wrap64; omega), Lib.hid ⟨by simp, by rw [HS.out, List.length_take]; omega⟩, Lib.hid ⟨hk1.mono hb, Nat.le_trans hb hk1.size, by rw [HS.out, List.append_assoc, List.singleton_append, ← List.drop_eq_getElem_cons hkl, List.take_append_drop]; exact own_keepsP HOWN.out hk1⟩⟩
    case round =>
      obtain ⟨i, j, mid, hij, hj, rfl, rfl, HM, HV⟩ := hrel
      clear HS hwr hkl hk1 HI
      obtain ⟨L, HL⟩ : ∃ L, L = (xs.take j).filter (fun p => !M p) ++ mid ++ xs.drop j := ⟨_, rfl⟩
      have hLn : L.length = xs.length := by rw [HL, List.length_append, List.length_append, HM.out.2, HM.out.1, List.length_drop]; omega
      have hbl : base ≤ wr.heap.size := HV.out.2.1
      have HOL : Hid (wr.ownsRow base 59 2 (.slice (some ⟨g, 0, none⟩) L.length cap) L.length (L.flatMap Rf.cells)) := Lib.hid (by rw [hLn, HL]; exact HV.out.2.2)
      have he2 : wr.cell? ⟨bs, 0, none⟩ = some (.map (some mb)) := (HV.out.1.cell hbe).trans he
      have hp2 : VMap refK wr mb mn (setM M) := hp.below HV.out.1 hbp
      by_cases hjl : j < xs.length
      · have hjL : j < L.length := by omega
        have hLj : L[j] = xs[j] := by
          have hl2 : ((xs.take j).filter (fun p => !M p) ++ mid).length = j := by rw [List.length_append, HM.out.2, HM.out.1]; omega
          subst HL
          rw [List.getElem_append_right (by omega)]
          simp [hl2]
        obtain ⟨ao, c3, b, e3, hs⟩ := Sl.own HOL.out
        simp only [Value.slice.injEq, true_and] at e3
        obtain ⟨rfl, rfl⟩ := e3
        have hb0 := hs.addr (by omega)
        simp only [Option.some.injEq, Addr.mk.injEq, and_true] at hb0
        obtain ⟨rfl, _⟩ := hb0
        have hr : Recs wr 2 Rf.cells (some ⟨g, 0, none⟩) L cap g 0 := hs
        have hix := Sl.at hr Try.underlying45 Try.sizeOf59 j hjL
        have hixi := Sl.at hr Try.underlying45 Try.sizeOf59 i (by omega)
        obtain ⟨p, hpk⟩ : ∃ p, xs[j] = p := ⟨_, rfl⟩
        rw [hpk] at hLj
        have c0 := hr.cell Rf.len j hjL 0 (.int .i64 p.e) (by rw [hLj]; rfl)
        have c1 := hr.cell Rf.len j hjL 1 (.int .i64 p.l) (by rw [hLj]; rfl)
        simp only [Nat.add_zero, Nat.zero_add] at c0 c1 hix hixi
        have HB : Hid (∀ W, Keeps wr W → Calls Try.prog 34 #[.agg #[.int .i64 p.e, .int .i64 p.l], .pointer (some ⟨bs, 0, none⟩)] W
          fun e w' => e = .returned (.bool (M p)) ∧ Keeps W w') := Lib.hid (fun W hW => open1_any p bs mb mn M W (hW.cell he2) (hp2.keeps hW) (by rw [← hpk]; exact hok _ (List.getElem_mem ..)))
        rw [hLn] at hix hixi
        have HP := Lib.hid hpk
        have hbx := hbl
        clear hr hpk he2 hp2 hs hbl
        cases hob : M p with
        | true =>
          rw [hob] at HB
          have HQ : Hid ((xs.take (j + 1)).filter (fun p => !M p) = (xs.take j).filter (fun p => !M p) ∧ xs.drop j = p :: xs.drop (j + 1)) := Lib.hid ⟨by rw [take_snoc _ j hjl, HP.out, List.filter_append, List.filter_cons, hob]; simp, by rw [List.drop_eq_getElem_cons hjl, HP.out]⟩
          clear hob hixi
          go_wp2_with (go_at_call 34; refine (HB.out _ ((Keeps.refl _).alloc _)).mono ?_; rintro e w2 ⟨rfl, hk2⟩)
          have hk3 : Keeps wr w2 := ((Keeps.refl wr).alloc _).trans hk2
          go_roundw
          case rel => exact ⟨i, j + 1, mid ++ [p], by omega, by omega, rfl, by go_num, Lib.hid ⟨by rw [List.length_append, HM.out.1, List.length_singleton]; omega, by rw [HQ.out.1]; exact HM.out.2⟩, Lib.hid ⟨HV.out.1.trans (hk3.mono hbx), Nat.le_trans hbx hk3.size, by have h := own_keepsP HV.out.2.2 hk3; rw [HQ.out.2] at h; rw [HQ.out.1]; simpa using h⟩⟩
          case measure => simp [intOf]; omega
        | false =>
          rw [hob] at HB
          obtain ⟨m0, mt, hmid⟩ : ∃ m0 mt, mid = m0 :: mt := by
            cases hm : mid with
            | nil => have := HM.out.1; rw [hm] at this; simp at this; omega
            | cons m0 mt => exact ⟨m0, mt, rfl⟩
          have HQ : Hid ((xs.take (j + 1)).filter (fun p => !M p) = (xs.take j).filter (fun p => !M p) ++ [p] ∧ xs.drop j = p :: xs.drop (j + 1) ∧ mid = m0 :: mt) := Lib.hid ⟨by rw [take_snoc _ j hjl, HP.out, List.filter_append, List.filter_cons, hob]; simp, by rw [List.drop_eq_getElem_cons hjl, HP.out], hmid⟩
          have HSC : Hid (∀ W, Keeps wr W → (W.setCells g (i * 2) p.cells).ownsRow base 59 2 (.slice (some ⟨g, 0, none⟩) xs.length cap) xs.length (((xs.take (j + 1)).filter (fun p => !M p) ++ (mt ++ [p]) ++ xs.drop (j + 1)).flatMap Rf.cells) ∧ W.grownBy (W.setCells g (i * 2) p.cells) (some g)) := Lib.hid (fun W hW => by
            obtain ⟨h1, h2⟩ := own_setCells p.cells (i * 2) W _ (own_keepsP HV.out.2.2 hW)
            refine ⟨?_, h2⟩
            have e : setL (((xs.take j).filter (fun p => !M p) ++ mid ++ xs.drop j).flatMap Rf.cells) (i * 2) p.cells = ((xs.take (j + 1)).filter (fun p => !M p) ++ (mt ++ [p]) ++ xs.drop (j + 1)).flatMap Rf.cells := by
              rw [HQ.out.1, HQ.out.2.1, HQ.out.2.2]
              have := setL_app (mt.flatMap Rf.cells ++ (p :: xs.drop (j + 1)).flatMap Rf.cells) p.cells (((xs.take j).filter (fun p => !M p)).flatMap Rf.cells) (i * 2) (by rw [flat_length Rf.len, HM.out.2]) m0.cells (by rw [Rf.len, Rf.len])
              simpa [List.flatMap_append] using this
            rw [← e]
            exact h1)
          have HTH : Hid (∀ W, Keeps wr W → W.there g (i * 2) 2) := Lib.hid (fun W hW => own_there (own_keepsP HV.out.2.2 hW) (i * 2) 2 (by omega))
          have hgb : base ≤ g := (HV.out.2.2.lt g rfl).1
          clear hob hmid
          go_wp2_with (first | (go_at_call 34; refine (HB.out _ ((Keeps.refl _).alloc _)).mono ?_; rintro e w2 ⟨rfl, hk2⟩; have e0 := hk2.cell (p := ⟨wr.heap.size, 0, none⟩) (v := .int .i64 p.e) (by go_simp); have e1 := hk2.cell (p := ⟨wr.heap.size, 1, none⟩) (v := .int .i64 p.l) (by go_simp); have hk3 : Keeps wr w2 := ((Keeps.refl wr).alloc _).trans hk2; have ht3 := HTH.out _ hk3) | (refine wpList_rf_store rfl (.tmp 33) (.tmp 32) rfl g (i * 2) p rfl rfl ht3 ?_; intro w4 hw4; clear ht3))
          obtain ⟨hs4, hg4⟩ := HSC.out _ hk3
          rw [hw4] at hs4 hg4
          have HS4 := Lib.hid hs4
          have HB4 : Hid (Below base w w4 ∧ base ≤ w4.heap.size) := Lib.hid ⟨(HV.out.1.trans (hk3.mono hbx)).grown hg4 (Nat.le_trans hbx hk3.size) (fun q hq => by cases hq; exact hgb), Nat.le_trans (Nat.le_trans hbx hk3.size) hg4.size⟩
          clear hs4 hg4 hw4 HSC HTH HB
          go_roundw
          case rel => exact ⟨i + 1, j + 1, mt ++ [p], by omega, by omega, by go_num, by go_num, Lib.hid ⟨by have := HM.out.1; rw [HQ.out.2.2, List.length_cons] at this; rw [List.length_append, List.length_singleton]; omega, by rw [HQ.out.1, List.length_append, HM.out.2]; rfl⟩, Lib.hid ⟨HB4.out.1, HB4.out.2, HS4.out⟩⟩
          case measure => simp [intOf]; omega
      · obtain rfl : j = xs.length := by omega
        rw [hLn] at HOL
        have hfe : Hid ((xs.filter (fun p => !M p)).length = i ∧ (xs.filter (fun p => !M p)).flatMap Rf.cells = (L.flatMap Rf.cells).take (i * 2)) := Lib.hid (by
          have hi2 := HM.out.2
          rw [List.take_length] at hi2
          refine ⟨hi2, ?_⟩
          rw [HL, List.take_length, List.drop_length, List.append_nil, List.flatMap_append, List.take_left' (by rw [flat_length Rf.len, hi2])])
        have hct := run_cutTo Try.underlying45 Try.sizeOf59 (some ⟨g, 0, none⟩) xs.length cap i (by omega) h2
        obtain ⟨_, c3, _, e3, hs⟩ := Sl.own HOL.out
        simp only [Value.slice.injEq, true_and] at e3
        obtain ⟨e31, rfl⟩ := e3
        obtain ⟨rfl⟩ := e31
        obtain ⟨ao5, hcf, hs5⟩ := Sl.cutFrom hs Try.underlying45 Try.sizeOf59 i (by omega)
        have ha5 := hs5.addr (by omega)
        have hab := hs.addr (by omega)
        simp only [Option.some.injEq, Addr.mk.injEq, and_true] at hab
        obtain ⟨rfl, _⟩ := hab
        subst ha5
        have hth : Hid (wr.there g (i * 2) ((xs.length - i) * 2)) := Lib.hid (own_there HOL.out (i * 2) ((xs.length - i) * 2) (by omega))
        have hgb : base ≤ g := (HOL.out.lt g rfl).1
        simp only [Nat.zero_add] at hcf
        clear hs hs5 he2 hp2 HL hLn
        go_wp2_with ((refine wpList_clearK rfl (.tmp 38) rfl Try.underlying45 Try.zeroValue59 (fun v hv => Rf.one ⟨0, 0⟩ v hv) g (i * 2) (xs.length - i) (cap - i) 2 rfl rfl (by omega) hth.out ?_); intro zs hzl)
        go_ret
        obtain ⟨ho5, hg5⟩ := own_setCells zs (i * 2) wr _ HOL.out
        have hc5 := own_cut ho5 i (by omega)
        have e5 : (setL (L.flatMap Rf.cells) (i * 2) zs).take (i * 2) = (L.flatMap Rf.cells).take (i * 2) := setL_take _ _ _
        rw [e5] at hc5
        refine ⟨_, rfl, ?_, HV.out.1.grown hg5 hbl (fun q hq => by cases hq; exact hgb)⟩
        rw [hfe.out.2, hfe.out.1]
        exact hc5
end Go.Proofs.Ytfddhmhagijodaa
