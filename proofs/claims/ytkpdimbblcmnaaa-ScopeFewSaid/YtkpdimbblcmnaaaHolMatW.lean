/- holding.Matrix: the walk. -/
import Derived.Test.YtkpdimbblcmnaaaHolMatP
import Derived.Test.YtkpdimbblcmnaaaKSet
import Derived.Test.YtkpdimbblcmnaaaCloneI
namespace Go.Proofs.Ytkpdimbblcmnaaa
open Go.RowKit
set_option linter.unusedSimpArgs false
set_option linter.unusedVariables false

theorem elemRows : ElemOf Try.prog 77 35 (.slice none 0 0) 1 24 := ⟨Try.underlying77, by kernel_rfl, rfl, by omega⟩
theorem run_cutArr (B m : Nat) (hm : m ≤ 12) (w : World) : (Instr.sliceAt 88 (.pointer (some ⟨B, 0, none⟩)) none (some (.int .i64 (m : Int))) none).run Try.prog w = .ok (.slice (some ⟨B, 0, none⟩) m 12) w := by
  have h1 : (m : Int) ≤ 12 := by omega
  go_simp
/-- The array of one row, in a block of its own. -/
def Arr12 (W : World) (base B : Nat) (xs : List Int) : Prop := W.ownsRow base 88 1 (.slice (some ⟨B, 0, none⟩) 12 12) 12 (pad12 xs)
theorem Arr12.made {w : World} {base : Nat} (hb : base ≤ w.heap.size) : Arr12 (w.alloc (.cells #[.int .i64 0, .int .i64 0, .int .i64 0, .int .i64 0, .int .i64 0, .int .i64 0, .int .i64 0, .int .i64 0, .int .i64 0, .int .i64 0, .int .i64 0, .int .i64 0] 88)) base w.heap.size [] := by
  exact ⟨rfl, .inr ⟨w.heap.size, 12, #[.int .i64 0, .int .i64 0, .int .i64 0, .int .i64 0, .int .i64 0, .int .i64 0, .int .i64 0, .int .i64 0, .int .i64 0, .int .i64 0, .int .i64 0, .int .i64 0], rfl, hb, World.alloc_heap_new w _, by omega, by unfold maxLen; omega, rfl, rfl⟩⟩
theorem Arr12.keeps {w w' : World} {base B : Nat} {xs : List Int} (h : Arr12 w base B xs) (k : Keeps w w') : Arr12 w' base B xs := own_keepsH h k
theorem Arr12.cell {w : World} {base B : Nat} {xs : List Int} (h : Arr12 w base B xs) (j : Nat) (hj : j < 12) : (∃ v, w.cell? ⟨B, j, none⟩ = some v) ∧ w.frozen? ⟨B, j, none⟩ = false := by
  obtain ⟨g, cap, e, h1, h2, h3⟩ := own_shapeH h (by omega)
  simp only [Value.slice.injEq, Option.some.injEq, Addr.mk.injEq, true_and] at e
  obtain ⟨⟨rfl, _⟩, _⟩ := e
  refine ⟨?_, h3 j⟩
  obtain ⟨ao, cap, b, e, hs⟩ := Sl.own h
  simp only [Value.slice.injEq, true_and] at e
  obtain ⟨rfl, rfl⟩ := e
  have ha := hs.addr (by omega)
  simp only [Option.some.injEq, Addr.mk.injEq] at ha
  obtain ⟨rfl, _⟩ := ha
  have hl : (pad12 xs).length = 12 := hs.len
  exact ⟨(pad12 xs)[j]'(by omega), by have := hs.cell j _ (List.getElem?_eq_getElem (by omega)); simpa using this⟩
theorem Arr12.set {w : World} {base B : Nat} {xs : List Int} (h : Arr12 w base B xs) (hx : xs.length < 12) (x : Int) : Arr12 (w.setCell ⟨B, xs.length, none⟩ (.int .i64 x)) base B (xs ++ [x]) := by
  have := own_setH h xs.length (.int .i64 x)
  rw [pad12_set hx] at this
  exact this
/-- Its first n elements, as a slice. -/
theorem Arr12.take {w : World} {base B : Nat} {xs : List Int} (h : Arr12 w base B xs) : Sl w 1 (some ⟨B, 0, none⟩) xs.length 12 B 0 (xs.map (.int .i64)) := by
  obtain ⟨ao, cap, b, e, hs⟩ := Sl.own h
  simp only [Value.slice.injEq, true_and] at e
  obtain ⟨rfl, rfl⟩ := e
  have ha := hs.addr (by omega)
  simp only [Option.some.injEq, Addr.mk.injEq] at ha
  obtain ⟨rfl, _⟩ := ha
  have hl : (pad12 xs).length = 12 := hs.len
  have hx : xs.length ≤ 12 := by simp [pad12] at hl; omega
  have := hs.take xs.length hx
  rw [show (pad12 xs).take (xs.length * 1) = xs.map (.int .i64) by simp [pad12]] at this
  exact this
set_option maxRecDepth 100000 in
set_option maxHeartbeats 4000000 in
theorem matrix_any (n : Int) (ao : Option Addr) (l : List Hol) (cap b o : Nat) (day : Int) (w : World) (H : Hols w ao l cap b o) (hlen : l.length ≤ 900) (hok : ∀ x ∈ l, x.Ok) :
    Calls Try.prog 45 #[.int .i64 n, .slice ao l.length cap, .int .i64 day] w (OutRows w (matR n l day)) := by
  have hcap := Sl.cap H
  have hle := Sl.le H
  have HH := Lib.hid H
  obtain ⟨vl, hvl⟩ : ∃ vl, hvalidB n l = vl := ⟨_, rfl⟩
  obtain ⟨vd, hvd⟩ : ∃ vd, dateB day = vd := ⟨_, rfl⟩
  have HV : Hid (Calls Try.prog 37 #[.int .i64 n, .slice ao l.length cap] w fun e w' => e = .returned (.bool vl) ∧ Keeps w w') := Lib.hid (by have := hvalid_any n ao l cap b o w H (by omega) hok; rw [hvl] at this; exact this)
  have HD : Hid (∀ W, Calls Try.prog 43 #[.int .i64 day] W fun e w' => e = .returned (.bool vd) ∧ W = w') := Lib.hid (fun W => by have := hdate_any day W; rw [hvd] at this; exact this)
  clear H hok
  cases vl with
  | false =>
    have HQ := Lib.hid (matR_1 (day := day) hvl)
    clear hvl hvd
    go_enter Try.func45, Try.ntmps45
    go_wp2_with (go_at_call 37; refine HV.out.mono ?_; rintro e1 w1 ⟨rfl, hk1⟩; have K1 := Lib.hid hk1; clear hk1)
    go_ret2
    exact OutRows.nil HQ.out K1.out
  | true =>
    cases vd with
    | false =>
      have HQ := Lib.hid (matR_2 hvl hvd)
      clear hvl hvd
      go_enter Try.func45, Try.ntmps45
      go_wp2_with (first | (go_at_call 43; refine (HD.out _).mono ?_; rintro e2 w2 ⟨rfl, rfl⟩) | (go_at_call 37; refine HV.out.mono ?_; rintro e1 w1 ⟨rfl, hk1⟩; have K1 := Lib.hid hk1; clear hk1))
      go_ret2
      exact OutRows.nil HQ.out K1.out
    | true =>
      obtain ⟨hn1, hn2⟩ := hvalidB_n hvl
      have HQ := Lib.hid (matR_3 hvl hvd)
      obtain ⟨m, rfl⟩ : ∃ m : Nat, n = (m : Int) := ⟨n.toNat, by omega⟩
      have hm12 : m ≤ 12 := by omega
      clear hvl hvd hn1 hn2
      go_enter Try.func45, Try.ntmps45
      go_wp2_with (first | (go_at_call 43; refine (HD.out _).mono ?_; rintro e2 w2 ⟨rfl, rfl⟩) | (go_at_call 37; refine HV.out.mono ?_; rintro e1 w1 ⟨rfl, hk1⟩; have K1 := Lib.hid hk1; clear hk1))
      go_loopw [8, 20] (fun vs vi wy => ∃ (k : Nat) (vv : List Value), k ≤ m ∧ vi = .int .i64 k ∧ Hid (Keeps w1 wy ∧ wy.ownsRow w1.heap.size 35 1 vs k vv ∧ RowsG wy vs.ownBlock vv (rowsH l m k day))) (fun _ vi _ => m - (intOf vi).toNat)
      case atStart => exact ⟨0, [], Nat.zero_le _, rfl, Lib.hid ⟨Keeps.refl _, World.ownsRow_nil _ _ _ _, RowsG.nil _ _⟩⟩
      case round =>
        obtain ⟨k, vv, hk, rfl, HX⟩ := hrel
        obtain ⟨wo, rfl⟩ : ∃ wo : World, wo = wr := ⟨_, rfl⟩
        by_cases hlt : k < m
        · have HA0 := Lib.hid (Arr12.made (w := wo) (Nat.le_refl _))
          go_wp2_with fail
          go_loopw [24] (fun vi2 wy => ∃ j : Nat, j ≤ m ∧ vi2 = .int .i64 j ∧ Hid (Keeps wo wy ∧ Arr12 wy wo.heap.size wo.heap.size (rowH l j (k : Int) day))) (fun vi2 _ => m - (intOf vi2).toNat)
          case atStart => exact ⟨0, Nat.zero_le _, rfl, Lib.hid ⟨(Keeps.refl wo).alloc _, HA0.out⟩⟩
          case round =>
            obtain ⟨j, hj, rfl, HY⟩ := hrel
            by_cases hlj : j < m
            · have HS := Lib.hid (rowH_snoc l j (k : Int) day)
              go_wp2_with (go_at_call 56; refine (hat_any ao l cap b o (k : Int) (j : Int) day _ (HH.out.keeps (K1.out.trans (HX.out.1.trans HY.out.1)))).mono ?_; rintro e4 w4 ⟨rfl, hk4⟩; have HZ := Lib.hid (And.intro (HY.out.1.trans hk4) (HY.out.2.keeps hk4)); obtain ⟨⟨u4, c4⟩, f4⟩ := HZ.out.2.cell j (by omega); have hb4 := World.block_lt_of_cell? _ _ c4; clear hk4)
              go_roundw
              case rel => exact ⟨j + 1, by omega, by go_num, Lib.hid ⟨HZ.out.1.setCell (p := ⟨wo.heap.size, j, none⟩) (Nat.le_refl _) _, by rw [HS.out]; have := HZ.out.2.set (by rw [rowH_len]; omega) (atH l (k : Int) (j : Int) day); rw [rowH_len] at this; exact this⟩⟩
              case measure => simp [intOf]; omega
            · obtain rfl : j = m := by omega
              have HSL : Hid (Sl wr 1 (some ⟨wo.heap.size, 0, none⟩) (rowH l j (k : Int) day).length 12 wo.heap.size 0 ((rowH l j (k : Int) day).map (.int .i64))) := Lib.hid HY.out.2.take
              have HCL := cloneI_any (some ⟨wo.heap.size, 0, none⟩) (rowH l j (k : Int) day) 12 wo.heap.size 0 wr HSL.out (by rw [rowH_len]; omega)
              rw [rowH_len] at HCL
              have HCL := Lib.hid HCL
              have HS := Lib.hid (rowsH_snoc l j k day)
              have HO := Lib.hid (own_keepsH HX.out.2.1 HY.out.1)
              have HKR := Lib.hid (HX.out.1.trans HY.out.1)
              have HRG := Lib.hid (HX.out.2.2.keeps HY.out.1)
              have hcut := run_cutArr wo.heap.size j hm12
              go_wp2_with (first | (go_at_call 57; refine HCL.out.mono ?_; rintro e6 w6 ⟨v6, rfl, hown6, hk6⟩; obtain ⟨ao6, cap6, b6, rfl, hs6⟩ := Sl.own hown6; clear hs6; have HI6 := Lib.hid (IntL.own (xs := rowH l j (k : Int) day) (by rw [rowH_len]; exact hown6)); have HSP := Lib.hid (sep_new HO.out hown6); have HO6 := Lib.hid (own_keepsH HO.out hk6); have HK6 := Lib.hid (HKR.out.trans hk6); have HRG6 := Lib.hid (HRG.out.keeps hk6); clear hown6 hk6) | (at_builtin; refine wpList_app_row elemRows rfl _ _ rfl w1 _ _ _ rfl w1.heap.size HO6.out HK6.out HK6.out.size _ (by exact HRG6.out) _ _ HI6.out (by exact HSP.out.1) HSP.out.2 _ 1 rfl rfl (by omega) (by omega) ?_; intro v5 w5 hown5 hrg5 hb5 hsz5; have HV5 : Hid (Keeps w1 w5 ∧ w5.ownsRow w1.heap.size 35 1 v5 (k + 1) _ ∧ RowsG w5 v5.ownBlock _ (rowsH l j (k + 1) day)) := Lib.hid ⟨hb5, hown5, by rw [HS.out]; exact hrg5⟩; clear hown5 hrg5 hb5 hsz5))
              go_roundw
              case rel => exact ⟨k + 1, _, by omega, by go_num, HV5⟩
              case measure => simp [intOf]; omega
        · obtain rfl : k = m := by omega
          obtain ⟨hky, howny, hrv⟩ := HX.out
          obtain ⟨ao7, cap7, b7, rfl, hrs⟩ := Rows.own (by rw [rowsH_len]; exact howny) hrv.1
          have HRS := Lib.hid hrs
          have HK := Lib.hid (K1.out.trans hky)
          clear hky howny hrv hrs HX
          go_wp2_with fail
          go_ret2
          rw [HQ.out, Int.toNat_natCast]
          exact ⟨ao7, cap7, b7, 0, rfl, HRS.out, HK.out⟩
end Go.Proofs.Ytkpdimbblcmnaaa
