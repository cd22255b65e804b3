/- Walks and plain facts that the claim rests on (CloneI, HolMatW, HolOrdP, CtlRankW, CtlRanks, HolRMat, CtlCtl). No condition. -/
import Derived.Test.YtoaidbhiciaeaaaGreatOr04
import Derived.Test.YtoaidbhiciaeaaaGreatOr01
import Derived.Lib.SliceRun
import Derived.Test.YtoaidbhiciaeaaaGreatOr11
import Derived.Test.YtoaidbhiciaeaaaGreatOr07
section
namespace Go.Proofs.YtoaidbhiciaeaaaGreat
open Go.RowKit
set_option linter.unusedSimpArgs false
set_option linter.unusedVariables false
theorem ones_int (l : List Int) : ∀ u ∈ l.map (Value.int .i64), u.oneCell' = true := fun u hu => by
  obtain ⟨a, _, rfl⟩ := List.mem_map.1 hu
  rfl
set_option maxHeartbeats 1000000 in
theorem cloneI_any (ao : Option Addr) (l : List Int) (cap b o : Nat) (w : World) (H : Sl w 1 ao l.length cap b o (l.map (.int .i64))) (hlen : l.length ≤ 1000000) :
    Calls Tryz.prog 197 #[.slice ao l.length cap] w fun e w' => ∃ v, e = .returned v ∧ w'.ownsRow w.heap.size 3 1 v l.length (l.map (.int .i64)) ∧ Keeps w w' := by
  have hcap := Sl.cap H
  have hle := Sl.le H
  have HH := Lib.hid H
  have HB := Lib.hid (ones_int l)
  cases ao with
  | none =>
    have h0 := Sl.nocap H rfl
    have hl0 : l = [] := List.eq_nil_of_length_eq_zero (by omega)
    subst hl0
    obtain rfl : cap = 0 := h0
    clear hcap hle
    simp only [List.length_nil]
    have hq := Lib.run_eql_slice_nil (P := Tryz.prog) w 69 3 none 0 0 0 0 Tryz.underlying69
    simp only [Option.isNone_none] at hq
    clear H
    go_enter Tryz.func197, Tryz.ntmps197
    go_wp2
    go_ret
    exact ⟨_, rfl, World.ownsRow_nil _ _ _ _, Keeps.refl w⟩
  | some ad =>
    have hq := Lib.run_eql_slice_nil (P := Tryz.prog) w 69 3 (some ad) l.length cap 0 0 Tryz.underlying69
    simp only [Option.isNone_some] at hq
    clear H
    go_enter Tryz.func197, Tryz.ntmps197
    go_wp2_with (at_builtin; (refine wpList_app_all elemInt rfl (.tmp 5) (.tmp 6) rfl w _ 0 [] rfl w.heap.size (own_empty (Nat.le_refl _)) (by exact ((Below.refl _ w).alloc (Nat.le_refl _) _)) (by simp) (some ad) l.length cap b o (l.map (.int .i64)) (by rfl) (by exact HH.out.keeps ((Keeps.refl w).alloc _)) HB.out (by omega) (by omega) ?_); intro v5 w5 hown5 hb5 hsz5; rw [Nat.zero_add, List.nil_append] at hown5; have HX := Lib.hid (And.intro hown5 (show Keeps w w5 from hb5)); clear hown5 hb5)
    go_ret
    exact ⟨_, rfl, HX.out.1, HX.out.2⟩
end Go.Proofs.YtoaidbhiciaeaaaGreat

end
section
namespace Go.Proofs.YtoaidbhiciaeaaaGreat
open Go.RowKit
set_option linter.unusedSimpArgs false
set_option linter.unusedVariables false
theorem elemRows : ElemOf Tryz.prog 239 69 (.slice none 0 0) 1 24 := ⟨Tryz.underlying239, by kernel_rfl, rfl, by omega⟩
theorem run_cutArr (B m : Nat) (hm : m ≤ 12) (w : World) : (Instr.sliceAt 154 (.pointer (some ⟨B, 0, none⟩)) none (some (.int .i64 (m : Int))) none).run Tryz.prog w = .ok (.slice (some ⟨B, 0, none⟩) m 12) w := by
  have h1 : (m : Int) ≤ 12 := by omega
  go_simp
def Arr12 (W : World) (base B : Nat) (xs : List Int) : Prop := W.ownsRow base 154 1 (.slice (some ⟨B, 0, none⟩) 12 12) 12 (pad12 xs)
theorem Arr12.made {w : World} {base : Nat} (hb : base ≤ w.heap.size) : Arr12 (w.alloc (.cells #[.int .i64 0, .int .i64 0, .int .i64 0, .int .i64 0, .int .i64 0, .int .i64 0, .int .i64 0, .int .i64 0, .int .i64 0, .int .i64 0, .int .i64 0, .int .i64 0] 154)) base w.heap.size [] := by
  exact ⟨rfl, .inr ⟨w.heap.size, 12, #[.int .i64 0, .int .i64 0, .int .i64 0, .int .i64 0, .int .i64 0, .int .i64 0, .int .i64 0, .int .i64 0, .int .i64 0, .int .i64 0, .int .i64 0, .int .i64 0], rfl, hb, World.alloc_heap_new w _, by omega, by unfold maxLen; omega, rfl, rfl⟩⟩
theorem Arr12.keeps {w w' : World} {base B : Nat} {xs : List Int} (h : Arr12 w base B xs) (k : Keeps w w') : Arr12 w' base B xs := own_keepsH h k
theorem Arr12.cell {w : World} {base B : Nat} {xs : List Int} (h : Arr12 w base B xs) (j : Nat) (hj : j < 12) : (∃ v, w.cell? ⟨B, j, none⟩ = some v) ∧ w.frozen? ⟨B, j, none⟩ = false := by
  obtain ⟨g, cap, e, h1, h2, h3⟩ := own_shapeH h (by omega)
  simp only [Value.slice.injEq, Option.some.injEq, Addr.mk.injEq, true_and] at e
  obtain ⟨⟨rfl, _⟩, _⟩ := e
  refine ⟨?_, h3 j⟩
  obtain ⟨ao, cap, b, e, hs⟩ := Sl.own h
  simp only [Value.slice.injEq, true_and] at e
  obtain ⟨rfl, rfl⟩ := e
  have ha := hs.addr (by omega)
  simp only [Option.some.injEq, Addr.mk.injEq] at ha
  obtain ⟨rfl, _⟩ := ha
  have hl : (pad12 xs).length = 12 := hs.len
  exact ⟨(pad12 xs)[j]'(by omega), by have := hs.cell j _ (List.getElem?_eq_getElem (by omega)); simpa using this⟩
theorem Arr12.set {w : World} {base B : Nat} {xs : List Int} (h : Arr12 w base B xs) (hx : xs.length < 12) (x : Int) : Arr12 (w.setCell ⟨B, xs.length, none⟩ (.int .i64 x)) base B (xs ++ [x]) := by
  have := own_setH h xs.length (.int .i64 x)
  rw [pad12_set hx] at this
  exact this
theorem Arr12.take {w : World} {base B : Nat} {xs : List Int} (h : Arr12 w base B xs) : Sl w 1 (some ⟨B, 0, none⟩) xs.length 12 B 0 (xs.map (.int .i64)) := by
  obtain ⟨ao, cap, b, e, hs⟩ := Sl.own h
  simp only [Value.slice.injEq, true_and] at e
  obtain ⟨rfl, rfl⟩ := e
  have ha := hs.addr (by omega)
  simp only [Option.some.injEq, Addr.mk.injEq] at ha
  obtain ⟨rfl, _⟩ := ha
  have hl : (pad12 xs).length = 12 := hs.len
  have hx : xs.length ≤ 12 := by simp [pad12] at hl; omega
  have := hs.take xs.length hx
  rw [show (pad12 xs).take (xs.length * 1) = xs.map (.int .i64) by simp [pad12]] at this
  exact this
set_option maxRecDepth 100000 in
set_option maxHeartbeats 4000000 in
theorem matrix_any (n : Int) (ao : Option Addr) (l : List Hol) (cap b o : Nat) (day : Int) (w : World) (H : Hols w ao l cap b o) (hlen : l.length ≤ 900) (hok : ∀ x ∈ l, x.Ok) :
    Calls Tryz.prog 194 #[.int .i64 n, .slice ao l.length cap, .int .i64 day] w (OutRows w (matR n l day)) := by
  have hcap := Sl.cap H
  have hle := Sl.le H
  have HH := Lib.hid H
  obtain ⟨vl, hvl⟩ : ∃ vl, hvalidB n l = vl := ⟨_, rfl⟩
  obtain ⟨vd, hvd⟩ : ∃ vd, dateB day = vd := ⟨_, rfl⟩
  have HV : Hid (Calls Tryz.prog 39 #[.int .i64 n, .slice ao l.length cap] w fun e w' => e = .returned (.bool vl) ∧ Keeps w w') := Lib.hid (by have := hvalid_any n ao l cap b o w H (by omega) hok; rw [hvl] at this; exact this)
  have HD : Hid (∀ W, Calls Tryz.prog 109 #[.int .i64 day] W fun e w' => e = .returned (.bool vd) ∧ W = w') := Lib.hid (fun W => by have := hdate_any day W; rw [hvd] at this; exact this)
  clear H hok
  cases vl with
  | false =>
    have HQ := Lib.hid (matR_1 (day := day) hvl)
    clear hvl hvd
    go_enter Tryz.func194, Tryz.ntmps194
    go_wp2_with (go_at_call 39; refine HV.out.mono ?_; rintro e1 w1 ⟨rfl, hk1⟩; have K1 := Lib.hid hk1; clear hk1)
    go_ret2
    exact OutRows.nil HQ.out K1.out
  | true =>
    cases vd with
    | false =>
      have HQ := Lib.hid (matR_2 hvl hvd)
      clear hvl hvd
      go_enter Tryz.func194, Tryz.ntmps194
      go_wp2_with (first | (go_at_call 109; refine (HD.out _).mono ?_; rintro e2 w2 ⟨rfl, rfl⟩) | (go_at_call 39; refine HV.out.mono ?_; rintro e1 w1 ⟨rfl, hk1⟩; have K1 := Lib.hid hk1; clear hk1))
      go_ret2
      exact OutRows.nil HQ.out K1.out
    | true =>
      obtain ⟨hn1, hn2⟩ := hvalidB_n hvl
      have HQ := Lib.hid (matR_3 hvl hvd)
      obtain ⟨m, rfl⟩ : ∃ m : Nat, n = (m : Int) := ⟨n.toNat, by omega⟩
      have hm12 : m ≤ 12 := by omega
      clear hvl hvd hn1 hn2
      go_enter Tryz.func194, Tryz.ntmps194
      go_wp2_with (first | (go_at_call 109; refine (HD.out _).mono ?_; rintro e2 w2 ⟨rfl, rfl⟩) | (go_at_call 39; refine HV.out.mono ?_; rintro e1 w1 ⟨rfl, hk1⟩; have K1 := Lib.hid hk1; clear hk1))
      go_loopw [8, 20] (fun vs vi wy => ∃ (k : Nat) (vv : List Value), k ≤ m ∧ vi = .int .i64 k ∧ Hid (Keeps w1 wy ∧ wy.ownsRow w1.heap.size 69 1 vs k vv ∧ RowsG wy vs.ownBlock vv (rowsH l m k day))) (fun _ vi _ => m - (intOf vi).toNat)
      case atStart => exact ⟨0, [], Nat.zero_le _, rfl, Lib.hid ⟨Keeps.refl _, World.ownsRow_nil _ _ _ _, RowsG.nil _ _⟩⟩
      case round =>
        obtain ⟨k, vv, hk, rfl, HX⟩ := hrel
        obtain ⟨wo, rfl⟩ : ∃ wo : World, wo = wr := ⟨_, rfl⟩
        by_cases hlt : k < m
        · have HA0 := Lib.hid (Arr12.made (w := wo) (Nat.le_refl _))
          go_wp2_with fail
          go_loopw [24] (fun vi2 wy => ∃ j : Nat, j ≤ m ∧ vi2 = .int .i64 j ∧ Hid (Keeps wo wy ∧ Arr12 wy wo.heap.size wo.heap.size (rowH l j (k : Int) day))) (fun vi2 _ => m - (intOf vi2).toNat)
          case atStart => exact ⟨0, Nat.zero_le _, rfl, Lib.hid ⟨(Keeps.refl wo).alloc _, HA0.out⟩⟩
          case round =>
            obtain ⟨j, hj, rfl, HY⟩ := hrel
            by_cases hlj : j < m
            · have HS := Lib.hid (rowH_snoc l j (k : Int) day)
              go_wp2_with (go_at_call 111; refine (hat_any ao l cap b o (k : Int) (j : Int) day _ (HH.out.keeps (K1.out.trans (HX.out.1.trans HY.out.1)))).mono ?_; rintro e4 w4 ⟨rfl, hk4⟩; have HZ := Lib.hid (And.intro (HY.out.1.trans hk4) (HY.out.2.keeps hk4)); obtain ⟨⟨u4, c4⟩, f4⟩ := HZ.out.2.cell j (by omega); have hb4 := World.block_lt_of_cell? _ _ c4; clear hk4)
              go_roundw
              case rel => exact ⟨j + 1, by omega, by go_num, Lib.hid ⟨HZ.out.1.setCell (p := ⟨wo.heap.size, j, none⟩) (Nat.le_refl _) _, by rw [HS.out]; have := HZ.out.2.set (by rw [rowH_len]; omega) (atH l (k : Int) (j : Int) day); rw [rowH_len] at this; exact this⟩⟩
              case measure => simp [intOf]; omega
            · obtain rfl : j = m := by omega
              have HSL : Hid (Sl wr 1 (some ⟨wo.heap.size, 0, none⟩) (rowH l j (k : Int) day).length 12 wo.heap.size 0 ((rowH l j (k : Int) day).map (.int .i64))) := Lib.hid HY.out.2.take
              have HCL := cloneI_any (some ⟨wo.heap.size, 0, none⟩) (rowH l j (k : Int) day) 12 wo.heap.size 0 wr HSL.out (by rw [rowH_len]; omega)
              rw [rowH_len] at HCL
              have HCL := Lib.hid HCL
              have HS := Lib.hid (rowsH_snoc l j k day)
              have HO := Lib.hid (own_keepsH HX.out.2.1 HY.out.1)
              have HKR := Lib.hid (HX.out.1.trans HY.out.1)
              have HRG := Lib.hid (HX.out.2.2.keeps HY.out.1)
              have hcut := run_cutArr wo.heap.size j hm12
              go_wp2_with (first | (go_at_call 197; refine HCL.out.mono ?_; rintro e6 w6 ⟨v6, rfl, hown6, hk6⟩; obtain ⟨ao6, cap6, b6, rfl, hs6⟩ := Sl.own hown6; clear hs6; have HI6 := Lib.hid (IntL.own (xs := rowH l j (k : Int) day) (by rw [rowH_len]; exact hown6)); have HSP := Lib.hid (sep_new HO.out hown6); have HO6 := Lib.hid (own_keepsH HO.out hk6); have HK6 := Lib.hid (HKR.out.trans hk6); have HRG6 := Lib.hid (HRG.out.keeps hk6); clear hown6 hk6) | (at_builtin; refine wpList_app_row elemRows rfl _ _ rfl w1 _ _ _ rfl w1.heap.size HO6.out HK6.out HK6.out.size _ (by exact HRG6.out) _ _ HI6.out (by exact HSP.out.1) HSP.out.2 _ 1 rfl rfl (by omega) (by omega) ?_; intro v5 w5 hown5 hrg5 hb5 hsz5; have HV5 : Hid (Keeps w1 w5 ∧ w5.ownsRow w1.heap.size 69 1 v5 (k + 1) _ ∧ RowsG w5 v5.ownBlock _ (rowsH l j (k + 1) day)) := Lib.hid ⟨hb5, hown5, by rw [HS.out]; exact hrg5⟩; clear hown5 hrg5 hb5 hsz5))
              go_roundw
              case rel => exact ⟨k + 1, _, by omega, by go_num, HV5⟩
              case measure => simp [intOf]; omega
        · obtain rfl : k = m := by omega
          obtain ⟨hky, howny, hrv⟩ := HX.out
          obtain ⟨ao7, cap7, b7, rfl, hrs⟩ := Rows.own (by rw [rowsH_len]; exact howny) hrv.1
          have HRS := Lib.hid hrs
          have HK := Lib.hid (K1.out.trans hky)
          clear hky howny hrv hrs HX
          go_wp2_with fail
          go_ret2
          rw [HQ.out, Int.toNat_natCast]
          exact ⟨ao7, cap7, b7, 0, rfl, HRS.out, HK.out⟩
end Go.Proofs.YtoaidbhiciaeaaaGreat

end
section
namespace Go.Proofs.YtoaidbhiciaeaaaGreat
set_option linter.unusedSimpArgs false
set_option linter.unusedVariables false
theorem hvalidB_iff {n : Int} {l : List Hol} : hvalidB n l = true ↔ (1 ≤ n ∧ n ≤ 12 ∧ l.length ≤ 200) ∧ (∀ x ∈ l, properB n x = true) ∧ (l.Pairwise fun x y => sameH x y = false) ∧ sumsB l = true := by
  constructor
  · intro h
    have h0 := h
    simp only [hvalidB, Bool.and_eq_true, decide_eq_true_eq] at h
    obtain ⟨⟨⟨⟨h1, h2⟩, h3⟩, h4⟩, h5⟩ := h
    have hk : ∀ k < l.length, okH n l k = true := fun k hk => List.all_eq_true.1 h4 k (List.mem_range.2 hk)
    exact ⟨⟨h1, h2, h3⟩, okH_proper hk, List.pairwise_iff_getElem.2 fun i j hi hj hij => hvalidB_ne h0 hj hij, h5⟩
  · rintro ⟨⟨h1, h2, h3⟩, h4, h5, h6⟩
    rw [hvalidB_rest h1 h2 h3]
    · exact h6
    · intro k hk
      rw [okH_at hk, h4 _ (List.getElem_mem hk), Bool.true_and, Bool.not_eq_true', List.any_eq_false]
      intro a ha
      obtain ⟨i, hi, rfl⟩ := List.getElem_of_mem ha
      simp only [List.length_take] at hi
      rw [List.getElem_take]
      have := (List.pairwise_iff_getElem.1 h5) i k (by omega) hk (by omega)
      simp [this]
end Go.Proofs.YtoaidbhiciaeaaaGreat

end
section
namespace Go.Proofs.YtoaidbhiciaeaaaGreat
open Go.RowKit Go.Shelf
attribute [local go_sem] Oper.semAt_some
set_option linter.unusedSimpArgs false
set_option linter.unusedVariables false
theorem steps_stops (m : Nat) (hm : 2 ≤ m) (B0 lo hi : Nat) (ao : Option Addr) (f : Nat → Nat → Int) (n cap b o : Nat) (hn1 : 1 ≤ n) (hn : n ≤ 12) (hf : ∀ h e, 0 ≤ f h e ∧ f h e ≤ 10000) (wb : World) (hR : Rows wb ao (matF f n) cap b o) (w : World)
    (hB0 : B0 < w.heap.size) (hhi : hi ≤ B0) (hlo : wb.heap.size ≤ lo) (hlN : lo ≤ w.heap.size) (hk : Keeps wb w) (c0 : w.cell? ⟨B0, 0, none⟩ = some (.slice ao n cap)) :
    SeqStopsK Fence.wide m Tryz.prog 198 #[.pointer (some ⟨B0, 0, none⟩)] (fun x : Nat × Nat => #[.int .i64 (x.1 : Nat), .int .u16 (x.2 : Nat)]) (KeepBut w.heap.size lo hi) (StepsS f n) (fun _ => True) n w :=
  fun l J Jx W hW hJ hJx hY h0 =>
    steps1_in m hm l B0 w.heap.size lo hi ao f n cap b o hn1 hn hf J Jx wb hR hB0 hhi hlo hlN (fun pre x W1 hj hl => hY pre x W1 hj hl) W hW.size (hk.trans hW) ((hW.cell hB0).trans c0) h0
def applyS (φ : Nat → Int) (x : Nat × Nat) : Nat → Int := fun e => if x.2 / 2 ^ e % 2 = 1 then (x.1 : Int) else φ e
def foldS (xs : List (Nat × Nat)) : Nat → Int := xs.foldl applyS (fun _ => -1)
theorem foldS_snoc (xs : List (Nat × Nat)) (x : Nat × Nat) : foldS (xs ++ [x]) = applyS (foldS xs) x := by simp [foldS, List.foldl_append]
theorem foldS_steps (f : Nat → Nat → Int) (n : Nat) (hn : 1 ≤ n) : ∀ k e, e < n → foldS (stepsL f n (k + 1)) e = rkA f n k e := by
  intro k
  induction k with
  | zero =>
    intro e he
    rw [stepsL_snoc, foldS_snoc]
    simp only [applyS]
    rw [encB_shift _ _ _ he]
    simp only [rkA, frA, inA, stepsL, foldS]
    by_cases h : e = 0
    · subst h; simp
    · simp [h]
  | succ k ih =>
    intro e he
    rw [stepsL_snoc, foldS_snoc]
    simp only [applyS]
    rw [encB_shift _ _ _ he, ih e he]
    cases h : frA f n (k + 1) e with
    | true => rw [rkA_new h]; simp
    | false => rw [rkA_old h]; simp
theorem bit16_any (z e : Nat) : bits .and .u16 ((z : Nat) / 2 ^ e) 1 = ((z / 2 ^ e % 2 : Nat) : Int) := by
  rw [castDiv]
  generalize z / 2 ^ e = a
  have h1 : (BitVec.ofInt 16 (a : Int)).toNat = a % 65536 := by
    rw [BitVec.ofInt_natCast, BitVec.toNat_ofNat]
  show IntKind.u16.wrap ((BitVec.ofInt 16 (a : Int) &&& BitVec.ofInt 16 (1 : Int)).toNat : Int) = _
  rw [BitVec.toNat_and, h1, show (BitVec.ofInt 16 (1 : Int)).toNat = 1 from rfl, Nat.and_one_is_mod, IntKind.wrap_u16]
  omega
def f0 (l : List Hol) (day : Int) : Nat → Nat → Int := fun h e => atH l (h : Int) (e : Int) day
theorem matH_f0 (l : List Hol) (n : Nat) (day : Int) : matH l n day = matF (f0 l day) n := rfl
def rankR (n : Int) (l : List Hol) (day : Int) : List Int × Int := if (matR n l day).2 = 0 then (fnI (rkA (f0 l day) n.toNat n.toNat) n.toNat, 0) else ([], (matR n l day).2)
theorem infoIntC : (Tryz.prog.info? 3).map (fun i => (i.zero, i.size, i.bytes)) = some (some (.int .i64 0), 1, 8) := by kernel_rfl
theorem f0_bd {n : Int} {l : List Hol} (h : hvalidB n l = true) (day : Int) : ∀ x e, 0 ≤ f0 l day x e ∧ f0 l day x e ≤ 10000 := by
  have hp := (hvalidB_iff.1 h).2.1
  intro x e
  unfold f0 atH
  cases hc : curH day (ofPair l (x : Int) (e : Int)) with
  | none => exact ⟨Int.le_refl _, by decide⟩
  | some m =>
    have := properB_true (hp m (List.mem_filter.1 (curH_mem hc)).1)
    exact ⟨this.2.2.2.2.2.2.1, this.2.2.2.2.2.2.2⟩
theorem upd_step (k i : Nat) : updI (fun e => if e < k then -1 else 0) k (-1) i = if i < k + 1 then -1 else 0 := by
  simp only [updI]
  by_cases h1 : i = k
  · subst h1; simp
  · by_cases h2 : i < k
    · rw [if_neg h1, if_pos h2, if_pos (by omega)]
    · rw [if_neg h1, if_neg h2, if_neg (by omega)]
theorem ups_no {A F : Nat → Int} {j : Nat} (h : A j = F j) (i : Nat) : (if i < j then A i else F i) = if i < j + 1 then A i else F i := by
  by_cases h1 : i = j
  · subst h1; rw [if_neg (Nat.lt_irrefl _), if_pos (Nat.lt_succ_self _), h]
  · by_cases h2 : i < j
    · rw [if_pos h2, if_pos (by omega)]
    · rw [if_neg h2, if_neg (by omega)]
theorem ups_yes {A F : Nat → Int} {j : Nat} {x : Int} (h : A j = x) (i : Nat) : updI (fun i => if i < j then A i else F i) j x i = if i < j + 1 then A i else F i := by
  simp only [updI]
  by_cases h1 : i = j
  · subst h1; rw [if_pos rfl, if_pos (Nat.lt_succ_self _), h]
  · rw [if_neg h1]
    by_cases h2 : i < j
    · rw [if_pos h2, if_pos (by omega)]
    · rw [if_neg h2, if_neg (by omega)]
structure RankB (w1 W : World) (m : Nat) (φ : Nat → Int) : Prop where
  row : RowB W w1.heap.size 3 (rowI φ m)
  box : Boxed W (w1.heap.size + 1) 69 (.slice (some ⟨w1.heap.size, 0, none⟩) m m)
  below : Below w1.heap.size w1 W
theorem RankB.congr {w1 W : World} {m : Nat} {φ ψ : Nat → Int} (h : RankB w1 W m φ) (e : ∀ i < m, φ i = ψ i) : RankB w1 W m ψ := ⟨by rw [← rowI_congr e]; exact h.row, h.box, h.below⟩
theorem RankB.set {w1 W : World} {m : Nat} {φ : Nat → Int} (h : RankB w1 W m φ) (j : Nat) (x : Int) : RankB w1 (W.setCell ⟨w1.heap.size, j, none⟩ (.int .i64 x)) m (updI φ j x) :=
  ⟨by rw [← rowI_set]; exact h.row.set j _, boxed_other h.box (by simp) _, h.below.setCell (Nat.le_refl _) _⟩
set_option maxRecDepth 100000 in
set_option maxHeartbeats 4000000 in
theorem rank_in (n : Int) (l : List Hol) (day : Int) (ao : Option Addr) (cap b o : Nat) (w : World) (H : Hols w ao l cap b o) (hlen : l.length ≤ 900) (hok : ∀ x ∈ l, x.Ok) :
    CallsIn Fence.wide 5 Tryz.prog 193 #[.int .i64 n, .slice ao l.length cap, .int .i64 day] w fun e w' => ∃ ao cap b o, e = .returned (.tuple #[.slice ao (rankR n l day).1.length cap, .int .i64 (rankR n l day).2]) ∧ Sl w' 1 ao (rankR n l day).1.length cap b o ((rankR n l day).1.map (.int .i64)) ∧ Keeps w w' := by
  have HM0 := matrix_any n ao l cap b o day w H hlen hok
  by_cases hv : hvalidB n l = true ∧ dateB day = true
  · obtain ⟨hv, hd⟩ := hv
    obtain ⟨hn1, hn2⟩ := hvalidB_n hv
    obtain ⟨m, rfl⟩ : ∃ m : Nat, n = (m : Int) := ⟨n.toNat, by omega⟩
    have hm1 : 1 ≤ m := by omega
    have hm : m ≤ 12 := by omega
    have hq : rankR (m : Int) l day = (fnI (rkA (f0 l day) m m) m, 0) := by unfold rankR; rw [matR_3 hv hd]; simp
    have hfb := f0_bd hv day
    unfold OutRows at HM0
    rw [matR_3 hv hd, Int.toNat_natCast] at HM0
    simp only [matH_len] at HM0
    rw [hq]
    simp only [fnI_len]
    have HM := Lib.hid HM0
    have HFB := Lib.hid hfb
    obtain ⟨i0, hi, hz0, hz1, hz2⟩ := info_parts infoIntC
    have hg1 : Fence.wide.fn 194 := trivial
    have hg2 : Fence.wide.fn 195 := trivial
    clear HM0 hv hd hn1 hn2 hq hfb H hok
    refine callsIn_of_wp_marks Tryz.func193 rfl trivial ?_ rfl
    simp only [Tryz.ntmps193, List.size_toArray, List.length_cons, List.length_nil, Nat.reduceAdd, Nat.reduceSub, Array.replicate_succ, Array.replicate_zero, List.push_toArray, List.append_toArray, List.nil_append, List.cons_append]
    gi_wp2_with (first | (gi_at_call 194; refine (callsIn_wide.2 HM.out).mono ?_; rintro e1 w1 ⟨ao1, cap1, b1, o1, rfl, hs1, hk1⟩; have HS1 := Lib.hid hs1; have K1 := Lib.hid hk1; clear hs1 hk1) | (gi_at_make; refine wpListIn_makeZ _ rfl _ _ 69 rfl 3 i0 (.int .i64 0) Tryz.underlying69 hi hz0 hz1 rfl _ _ _ _ m rfl rfl rfl rfl (by rw [hz2]; omega) (by omega) ?_))
    have HR0 : Hid (RankB w1 ((w1.alloc (Obj.cells (Array.replicate m (Value.int IntKind.i64 0)) 3)).alloc (Obj.cells #[Value.slice (some { block := w1.heap.size, off := 0 }) m m] 69)) m (fun _ => 0)) := Lib.hid (by
      refine ⟨?_, ?_, ((Below.refl _ w1).alloc (Nat.le_refl _) _).alloc (by simp) _⟩
      · refine RowB.alloc ?_ _
        rw [← rowI_zero]
        have := RowB.new w1 3 (List.replicate m (.int .i64 0))
        simpa using this
      · have := Boxed.new (w1.alloc (Obj.cells (Array.replicate m (Value.int IntKind.i64 0)) 3)) 69 (.slice (some ⟨w1.heap.size, 0, none⟩) m m)
        simpa using this)
    gi_loopw [29] (fun vi wy => ∃ k : Nat, k ≤ m ∧ vi = .int .i64 k ∧ Hid (RankB w1 wy m (fun e => if e < k then -1 else 0))) (fun vi _ => m - (intOf vi).toNat)
    case atStart => exact ⟨0, Nat.zero_le _, rfl, Lib.hid (HR0.out.congr fun i _ => by simp)⟩
    case round =>
      obtain ⟨k, hk, rfl, HX⟩ := hrel
      by_cases hlt : k < m
      · have c10 := HX.out.box.cell
        have c0 := HX.out.row.cell k _ (rowI_get _ _ _ hlt)
        have f0 := HX.out.row.frozen k
        have hb := HX.out.row.lt
        gi_wp2
        go_roundw
        case rel => exact ⟨k + 1, by omega, by go_num, Lib.hid ((HX.out.set k (-1)).congr fun i _ => upd_step k i)⟩
        case measure => simp [intOf]; omega
      · obtain rfl : k = m := by omega
        have HX2 := Lib.hid (HX.out.congr (ψ := fun _ => -1) fun i hi => by simp [hi])
        clear HX
        gi_wp2_with (gi_at_call 195; refine (steps_in Fence.wide _ trivial rfl _ _ _ _).mono ?_; rintro en w' ⟨rfl, rfl⟩)
        obtain ⟨wo, rfl⟩ : ∃ wo : World, wo = wr := ⟨_, rfl⟩
        have hlt1 := HX2.out.box.lt
        have hbl := HX2.out.below.size
        refine wpIn_rangeFunc_ownH rfl (by omega) (gf := 198) (lb := #[.pointer (some ⟨wo.heap.size, 0, none⟩)]) rfl trivial (enters_of Tryz.func198 (by kernel_rfl) rfl)
          (steps_stops 4 (by omega) wo.heap.size w1.heap.size (w1.heap.size + 1 + 1) ao1 (f0 l day) k cap1 b1 o1 hm1 hm HFB.out w1 HS1.out (wo.alloc (.cells #[.slice ao1 k cap1] 239)) (by simp) (by omega) (Nat.le_refl _) (by simp; omega) (HX2.out.below.trans ((Below.refl _ wo).alloc hbl _)) (by go_simp))
          (fun h k => h.trans k) (fun W l o o' hl _ _ _ => KeepBut.putObj W l o' hl) (Below.refl _ _) (fun _ => rfl)
          (fun pre W => (RowB W w1.heap.size 3 (rowI (foldS pre) k) ∧ Boxed W (w1.heap.size + 1) 69 (.slice (some ⟨w1.heap.size, 0, none⟩) k k)) ∧ (Below w1.heap.size w1 W ∧ (wo.alloc (.cells #[.slice ao1 k cap1] 239)).heap.size ≤ W.heap.size))
          (fun _ _ _ => False)
          (OwnFrom.and (OwnFrom.and (Own.from (RowB.own _ _ (fun pre => rowI (foldS pre) k)) _) (Own.from (boxed_own _ _ (fun _ => Value.slice (some ⟨w1.heap.size, 0, none⟩) k k)) _)) (OwnFrom.and (ownFrom_below (Nat.le_refl _) (by simp; omega)) (fun s X Y row hs hg hr => Nat.le_trans hs hg.size)))
          (fun _ _ _ _ _ hs _ _ => hs)
          ⟨⟨HX2.out.row.alloc _, HX2.out.box.alloc _⟩, ⟨HX2.out.below.trans ((Below.refl _ wo).alloc hbl _), Nat.le_refl _⟩⟩
          (fun x a' W => a' = { tmps := #[.int .i64 (k : Int), .slice ao l.length cap, .int .i64 day, undef, undef, undef, .slice none 0 0, .int .i64 0, .slice ao1 k cap1, .int .i64 0, .pointer (some ⟨w1.heap.size + 1, 0, none⟩), u11, .int .i64 (x.1 : Nat), .int .u16 (x.2 : Nat), undef, .tuple #[.slice ao1 k cap1, .int .i64 0], .int .i64 (k : Int), .slice ao l.length cap, .int .i64 day, .tuple #[.slice ao1 k cap1, .int .i64 0], .slice ao1 k cap1, .int .i64 0, .int .i64 0, .bool false, undef, .int .i64 (k : Int), .slice (some ⟨w1.heap.size, 0, none⟩) k k, .slice (some ⟨w1.heap.size, 0, none⟩) k k, .int .i64 (k : Int), .int .i64 (k : Int), .bool false, u31, u32, u33, u34, u35, .slice ao1 k cap1, .func (.func 198) #[] #[.pointer (some ⟨wo.heap.size, 0, none⟩)], .int .i64 (x.1 : Nat), .int .u16 (x.2 : Nat), undef, undef, undef, undef, undef, undef, undef, undef, undef, undef, undef, undef, undef, undef, undef, undef], defers := [] })
          (fun x a' _ X Y row hs hg hr => hs)
          ?assign ?body ?done ?stop
        case assign =>
          rintro lb pre x W K hI hK
          gi_wp2
          exact hK _ _ (KeepsFrom.refl _ _) (KeepBut.refl _ _ _ _) hI rfl
        case body =>
          rintro lb pre x a' W hlb ⟨r, hr⟩ ⟨⟨hrow, hbox⟩, ⟨hbel, hsz⟩⟩ rfl hlt
          have c10 := hbox.cell
          have HI := Lib.hid (And.intro (And.intro hrow hbox) (And.intro hbel hsz))
          clear hr hrow hbox hbel hsz
          gi_wp2
          gi_loopw [42] (fun vi wy => ∃ j : Nat, j ≤ k ∧ vi = .int .i64 j ∧ Hid (RankB w1 wy k (fun i => if i < j then applyS (foldS pre) x i else foldS pre i) ∧ KeepsOthers W wy ∧ KeepBut (wo.heap.size + 1) w1.heap.size (w1.heap.size + 1 + 1) W wy ∧ (wo.heap.size + 1) ≤ wy.heap.size)) (fun vi _ => k - (intOf vi).toNat)
          case atStart => exact ⟨0, Nat.zero_le _, rfl, Lib.hid ⟨⟨by simpa using HI.out.1.1, HI.out.1.2, HI.out.2.1⟩, KeepsOthers.refl _, KeepBut.refl _ _ _ _, by simpa using HI.out.2.2⟩⟩
          case round =>
            obtain ⟨j, hj, rfl, HY⟩ := hrel
            by_cases hlj : j < k
            · have c10 := HY.out.1.box.cell
              have c0 := HY.out.1.row.cell j _ (rowI_get _ _ _ hlj)
              have f0 := HY.out.1.row.frozen j
              have hb0 := HY.out.1.row.lt
              have hbit := bit16_any x.2 j
              rcases Nat.mod_two_eq_zero_or_one (x.2 / 2 ^ j) with h01 | h01
              · rw [h01] at hbit
                have HN : Hid (applyS (foldS pre) x j = foldS pre j) := Lib.hid (by simp [applyS, h01])
                gi_wp2
                go_roundw
                case rel => exact ⟨j + 1, by omega, by go_num, Lib.hid ⟨HY.out.1.congr fun i _ => ups_no HN.out i, HY.out.2⟩⟩
                case measure => simp [intOf]; omega
              · rw [h01] at hbit
                have HN : Hid (applyS (foldS pre) x j = (x.1 : Nat)) := Lib.hid (by simp [applyS, h01])
                gi_wp2
                go_roundw
                case rel => exact ⟨j + 1, by omega, by go_num, Lib.hid ⟨(HY.out.1.set j (x.1 : Nat)).congr fun i _ => ups_yes HN.out i, HY.out.2.1.trans (KeepsOthers.setCell _ _ _), HY.out.2.2.1.setCell (p := ⟨w1.heap.size, j, none⟩) (Nat.le_refl _) (by show w1.heap.size < _; omega) _, by have := HY.out.2.2.2; simpa [World.setCell] using this⟩⟩
                case measure => simp [intOf]; omega
            · obtain rfl : j = k := by omega
              have HZ : Hid (RankB w1 wr j (foldS (pre ++ [x]))) := Lib.hid (HY.out.1.congr fun i hi => by rw [if_pos hi, foldS_snoc])
              gi_wp2
              exact ⟨HY.out.2.1.from _, by simpa using HY.out.2.2.1, ⟨⟨HZ.out.row, HZ.out.box⟩, ⟨HZ.out.below, by simpa using HY.out.2.2.2⟩⟩⟩
        case done =>
          rintro D xs W hD ⟨q, rfl, hq1, hq2, hq3⟩ ⟨⟨hrow, hbox⟩, ⟨hbel, hsz⟩⟩ hK
          have c10 := hbox.cell
          have hen := ends hm1 hq2 hq1 hq3
          obtain ⟨p, rfl⟩ : ∃ p, q = p + 1 := ⟨q - 1, by omega⟩
          have HROW : Hid (RowB W w1.heap.size 3 (rowI (rkA (f0 l day) k k) k)) := Lib.hid (by
            rw [hen.1, Nat.add_sub_cancel, ← rowI_congr (foldS_steps (f0 l day) k hm1 p)]
            exact hrow)
          have HB := Lib.hid hbel
          clear hen hq2 hq3 hrow hbel
          gi_wp2
          refine ⟨by simp, .inl ⟨_, _, rfl, run_takeDeferred hK, ?_⟩⟩
          have hD' : wo.heap.size + 1 ≤ D := by simpa using hD
          exact ⟨_, results_tmp2 rfl _ _ _, _, _, _, _, rfl, (HROW.out.putObj D _ (by omega)).slI (by omega), K1.out.trans (show Keeps w1 _ from HB.out.trans (belowK_b (w := w1) (Nat.le_refl _) W D _ _ (by omega) hK rfl rfl))⟩
        case stop =>
          rintro D c pre W _ _ h _
          exact h.elim
  · obtain ⟨re, hr, h0⟩ : ∃ re, matR n l day = ([], re) ∧ re ≠ 0 := by
      cases h1 : hvalidB n l with
      | false => exact ⟨1, matR_1 h1, by decide⟩
      | true =>
        cases h2 : dateB day with
        | false => exact ⟨2, matR_2 h1 h2, by decide⟩
        | true => exact absurd ⟨h1, h2⟩ hv
    have hq : rankR n l day = ([], re) := by unfold rankR; rw [hr, if_neg h0]
    unfold OutRows at HM0
    rw [hr] at HM0
    rw [hq]
    have HM := Lib.hid HM0
    have e2 : (re != 0) = true := by simpa using h0
    have hg1 : Fence.wide.fn 194 := trivial
    clear HM0 hv hr hq H hok
    refine callsIn_of_wp_marks Tryz.func193 rfl trivial ?_ rfl
    simp only [Tryz.ntmps193, List.size_toArray, List.length_cons, List.length_nil, Nat.reduceAdd, Nat.reduceSub, Array.replicate_succ, Array.replicate_zero, List.push_toArray, List.append_toArray, List.nil_append, List.cons_append]
    gi_wp2_with (gi_at_call 194; refine (callsIn_wide.2 HM.out).mono ?_; rintro e1 w1 ⟨ao1, cap1, b1, o1, rfl, hs1, hk1⟩; have HS1 := Lib.hid hs1; have K1 := Lib.hid hk1; clear hs1 hk1)
    exact ⟨_, results_tmp2 rfl _ _ _, none, 0, 0, 0, rfl, Sl.nil _ _, K1.out⟩
end Go.Proofs.YtoaidbhiciaeaaaGreat

end
section
namespace Go.Proofs.YtoaidbhiciaeaaaGreat
open Go.RowKit
set_option linter.unusedSimpArgs false
set_option linter.unusedVariables false
def RkW (w W : World) (n : Nat) (φ : Nat → Int) : Prop := RowB W w.heap.size 3 (rowI φ n) ∧ Keeps w W
theorem RkW.congr {w W : World} {n : Nat} {φ ψ : Nat → Int} (h : RkW w W n φ) (e : ∀ i < n, φ i = ψ i) : RkW w W n ψ := ⟨by rw [← rowI_congr e]; exact h.1, h.2⟩
theorem RkW.set {w W : World} {n : Nat} {φ : Nat → Int} (h : RkW w W n φ) (j : Nat) (x : Int) : RkW w (W.setCell ⟨w.heap.size, j, none⟩ (.int .i64 x)) n (updI φ j x) :=
  ⟨by rw [← rowI_set]; exact h.1.set j _, h.2.setCell (Nat.le_refl _) _⟩
end Go.Proofs.YtoaidbhiciaeaaaGreat

end
section
namespace Go.Proofs.YtoaidbhiciaeaaaGreat
open Go.RowKit
set_option linter.unusedSimpArgs false
set_option linter.unusedVariables false
theorem infoBoolC : (Tryz.prog.info? 4).map (fun i => (i.zero, i.size, i.bytes)) = some (some (.bool false), 1, 1) := by kernel_rfl
def rowV (g : Nat → Value) (n : Nat) : List Value := (List.range n).map g
theorem rowV_len (g : Nat → Value) (n : Nat) : (rowV g n).length = n := by simp [rowV]
theorem rowV_get (g : Nat → Value) (n j : Nat) (hj : j < n) : (rowV g n)[j]? = some (g j) := by simp [rowV, hj]
theorem rowV_congr {g h : Nat → Value} {n : Nat} (e : ∀ i < n, g i = h i) : rowV g n = rowV h n := List.map_congr_left (fun i hi => e i (List.mem_range.1 hi))
theorem rowV_set (g : Nat → Value) (n j : Nat) (x : Value) : (rowV g n).set j x = rowV (fun i => if i = j then x else g i) n := by
  apply List.ext_getElem?
  intro i
  rw [List.getElem?_set]
  by_cases hi : i < n
  · rw [rowV_get _ _ _ hi, rowV_get _ _ _ hi]
    by_cases hij : j = i
    · subst hij; rw [if_pos rfl, if_pos (by rw [rowV_len]; exact hi)]; simp
    · rw [if_neg hij]; simp [Ne.symm hij]
  · have h1 : (rowV g n)[i]? = none := by rw [List.getElem?_eq_none]; rw [rowV_len]; omega
    have h2 : (rowV (fun i => if i = j then x else g i) n)[i]? = none := by rw [List.getElem?_eq_none]; rw [rowV_len]; omega
    rw [h1, h2]
    split
    · rw [if_neg (by rw [rowV_len]; omega)]
    · rfl
theorem rowV_const (n : Nat) (z : Value) : List.replicate n z = rowV (fun _ => z) n := by
  apply List.ext_getElem?
  intro i
  by_cases hi : i < n
  · rw [rowV_get _ _ _ hi]; simp [hi]
  · simp [rowV, hi]
theorem rank_any (n : Int) (l : List Hol) (day : Int) (ao : Option Addr) (cap b o : Nat) (w : World) (H : Hols w ao l cap b o) (hlen : l.length ≤ 900) (hok : ∀ x ∈ l, x.Ok) :
    Calls Tryz.prog 193 #[.int .i64 n, .slice ao l.length cap, .int .i64 day] w (OutL w (rankR n l day).1 (rankR n l day).2) := callsIn_wide.1 (rank_in n l day ao cap b o w H hlen hok)
def OutBl (w : World) (xs : List Bool) (er : Int) (e : Ending) (w' : World) : Prop :=
  ∃ ao cap b o, e = .returned (.tuple #[.slice ao xs.length cap, .int .i64 er]) ∧ Sl w' 1 ao xs.length cap b o (xs.map .bool) ∧ Keeps w w'
def fnB (φ : Nat → Bool) (n : Nat) : List Bool := (List.range n).map φ
theorem fnB_len (φ : Nat → Bool) (n : Nat) : (fnB φ n).length = n := by simp [fnB]
theorem fnB_row (φ : Nat → Bool) (n : Nat) : (fnB φ n).map .bool = rowV (fun e => .bool (φ e)) n := by simp [fnB, rowV]
def ctlR (n : Int) (l : List Hol) (day : Int) : List Bool × Int := if (matR n l day).2 = 0 then (fnB (inA (f0 l day) n.toNat n.toNat) n.toNat, 0) else ([], (matR n l day).2)
theorem mat_cases (n : Int) (l : List Hol) (day : Int) : (∃ m : Nat, n = (m : Int) ∧ 1 ≤ m ∧ m ≤ 12 ∧ hvalidB n l = true ∧ matR n l day = (matF (f0 l day) m, 0) ∧ rankR n l day = (fnI (rkA (f0 l day) m m) m, 0) ∧ ctlR n l day = (fnB (inA (f0 l day) m m) m, 0)) ∨
    (∃ re, re ≠ 0 ∧ matR n l day = ([], re) ∧ rankR n l day = ([], re) ∧ ctlR n l day = ([], re)) := by
  cases h1 : hvalidB n l with
  | false =>
    right
    have h := matR_1 (day := day) h1
    exact ⟨1, by decide, h, by unfold rankR; rw [h]; simp, by unfold ctlR; rw [h]; simp⟩
  | true =>
    cases h2 : dateB day with
    | false =>
      right
      have h := matR_2 h1 h2
      exact ⟨2, by decide, h, by unfold rankR; rw [h]; simp, by unfold ctlR; rw [h]; simp⟩
    | true =>
      left
      obtain ⟨hn1, hn2⟩ := hvalidB_n h1
      obtain ⟨m, rfl⟩ : ∃ m : Nat, n = (m : Int) := ⟨n.toNat, by omega⟩
      have h := matR_3 h1 h2
      rw [Int.toNat_natCast, matH_f0] at h
      exact ⟨m, rfl, by omega, by omega, rfl, h, by unfold rankR; rw [h]; simp, by unfold ctlR; rw [h]; simp⟩
theorem rk_in (f : Nat → Nat → Int) (n e : Nat) : decide (0 ≤ rkA f n n e) = inA f n n e := by
  have := rkA_iff (f := f) (n := n) n e
  cases h : inA f n n e with
  | true => exact decide_eq_true (this.2 h)
  | false => rw [h] at this; simp at this; exact decide_eq_false (by omega)
theorem fnI_cell {w : World} {ao : Option Addr} {φ : Nat → Int} {n cap b o : Nat} (H : Sl w 1 ao n cap b o ((fnI φ n).map (.int .i64))) (k : Nat) (hk : k < n) : w.cell? ⟨b, o + k, none⟩ = some (.int .i64 (φ k)) :=
  H.cell k _ (by simp [fnI, hk])
set_option maxRecDepth 100000 in
set_option maxHeartbeats 4000000 in
theorem controlled_any (n : Int) (l : List Hol) (day : Int) (ao : Option Addr) (cap b o : Nat) (w : World) (H : Hols w ao l cap b o) (hlen : l.length ≤ 900) (hok : ∀ x ∈ l, x.Ok) :
    Calls Tryz.prog 191 #[.int .i64 n, .slice ao l.length cap, .int .i64 day] w (OutBl w (ctlR n l day).1 (ctlR n l day).2) := by
  have hm0 := rank_any n l day ao cap b o w H hlen hok
  rcases mat_cases n l day with ⟨m, rfl, hm1, hm, hv, hq1, hq2, hq3⟩ | ⟨re, h0, hq1, hq2, hq3⟩
  · unfold OutL at hm0
    rw [hq2] at hm0
    simp only [fnI_len] at hm0
    rw [hq3]
    have HM := Lib.hid hm0
    obtain ⟨i0, hi, hz0, hz1, hz2⟩ := info_parts infoBoolC
    clear hm0 hv hq1 hq2 hq3 H hok
    go_enter Tryz.func191, Tryz.ntmps191
    go_wp2_with (first | (go_at_call 193; refine HM.out.mono ?_; rintro e1 w1 ⟨ao1, cap1, b1, o1, rfl, hs1, hk1⟩; have HS1 := Lib.hid hs1; have K1 := Lib.hid hk1; have hc1 := hs1.cap; have hl1 := hs1.le; clear hs1 hk1) | (at_make; refine wpList_makeZ _ rfl _ _ 234 rfl 4 i0 (.bool false) Tryz.underlying234 hi hz0 hz1 rfl _ _ _ _ m rfl rfl rfl rfl (by rw [hz2]; omega) (by omega) ?_))
    have HR0 : Hid (RowB (w1.alloc (Obj.cells (Array.replicate m (Value.bool false)) 4)) w1.heap.size 4 (rowV (fun _ => .bool false) m)) := Lib.hid (by
      rw [← rowV_const]
      have := RowB.new w1 4 (List.replicate m (.bool false))
      simpa using this)
    go_loopw [27] (fun vi wy => ∃ k : Nat, k ≤ m ∧ vi = .int .i64 k ∧ Hid (RowB wy w1.heap.size 4 (rowV (fun e => if e < k then .bool (inA (f0 l day) m m e) else .bool false) m)) ∧ Hid (Keeps w1 wy)) (fun vi _ => m - (intOf vi).toNat)
    case atStart => exact ⟨0, Nat.zero_le _, rfl, Lib.hid (by simpa using HR0.out), Lib.hid ((Keeps.refl w1).alloc _)⟩
    case round =>
      obtain ⟨k, hk, rfl, HX, HKY⟩ := hrel
      by_cases hlt : k < m
      · have c1 := fnI_cell (HS1.out.keeps HKY.out) k hlt
        have hix := (HS1.out.at1 Tryz.underlying69 Tryz.sizeOf3 k hlt)
        have hrk := rk_in (f0 l day) m k
        obtain ⟨r, hr⟩ : ∃ r, rkA (f0 l day) m m k = r := ⟨_, rfl⟩
        rw [hr] at c1 hrk
        have HIN := Lib.hid hrk
        have c0 := HX.out.cell k _ (rowV_get _ _ _ hlt)
        have f0' := HX.out.frozen k
        have hb0 := HX.out.lt
        clear hr hrk
        go_wp2_with fail
        go_roundw
        case rel => exact ⟨k + 1, by omega, by go_num, Lib.hid (by
          have := HX.out.set k (.bool (decide (0 ≤ r)))
          rw [rowV_set] at this
          rw [rowV_congr (h := fun e => if e = k then .bool (decide (0 ≤ r)) else if e < k then .bool (inA (f0 l day) m m e) else .bool false)]
          · exact this
          · intro i _
            by_cases h1 : i = k
            · subst h1; rw [if_pos rfl, if_pos (Nat.lt_succ_self _), HIN.out]
            · rw [if_neg h1]
              by_cases h2 : i < k
              · rw [if_pos h2, if_pos (by omega)]
              · rw [if_neg h2, if_neg (by omega)]), Lib.hid (HKY.out.setCell (p := ⟨w1.heap.size, k, none⟩) (Nat.le_refl _) _)⟩
        case measure => simp [intOf]; omega
      · obtain rfl : k = m := by omega
        have HZ : Hid (RowB wr w1.heap.size 4 (rowV (fun e => .bool (inA (f0 l day) k k e)) k)) := Lib.hid (by
          rw [rowV_congr (fun i hi => show (Value.bool (inA (f0 l day) k k i)) = if i < k then .bool (inA (f0 l day) k k i) else .bool false by rw [if_pos hi])]
          exact HX.out)
        go_wp2_with fail
        go_ret2
        refine ⟨some ⟨w1.heap.size, 0, none⟩, k, w1.heap.size, 0, by simp only [fnB_len]; rfl, ?_, K1.out.trans HKY.out⟩
        have h := HZ.out.sl (by rw [rowV_len]; omega)
        rw [rowV_len] at h
        simp only [fnB_len, fnB_row]
        exact h
  · unfold OutL at hm0
    rw [hq2] at hm0
    rw [hq3]
    have HM := Lib.hid hm0
    have e2 : (!(re == 0)) = true := by simpa using h0
    clear hm0 hq1 hq2 hq3 H hok
    go_enter Tryz.func191, Tryz.ntmps191
    go_wp2_with (go_at_call 193; refine HM.out.mono ?_; rintro e1 w1 ⟨ao1, cap1, b1, o1, rfl, hs1, hk1⟩; have HS1 := Lib.hid hs1; have K1 := Lib.hid hk1; have hc1 := hs1.cap; have hl1 := hs1.le; clear hs1 hk1)
    go_ret2
    exact ⟨none, 0, 0, 0, rfl, Sl.nil _ _, K1.out⟩
end Go.Proofs.YtoaidbhiciaeaaaGreat

end
