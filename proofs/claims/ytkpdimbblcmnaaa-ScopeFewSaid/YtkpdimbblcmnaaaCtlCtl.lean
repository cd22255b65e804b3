/- control.Controlled, and the reference's Rank, Controlled: the walks. -/
import Derived.Test.YtkpdimbblcmnaaaCtlRanks
import Derived.Test.YtkpdimbblcmnaaaHolRMat
namespace Go.Proofs.Ytkpdimbblcmnaaa
open Go.RowKit
set_option linter.unusedSimpArgs false
set_option linter.unusedVariables false

theorem elemBool : ElemOf Try.prog 22 4 (.bool false) 1 1 := ⟨Try.underlying22, by kernel_rfl, rfl, by omega⟩
theorem infoBoolC : (Try.prog.info? 4).map (fun i => (i.zero, i.size, i.bytes)) = some (some (.bool false), 1, 1) := by kernel_rfl
/-- A row of values by a function. -/
def rowV (g : Nat → Value) (n : Nat) : List Value := (List.range n).map g
theorem rowV_len (g : Nat → Value) (n : Nat) : (rowV g n).length = n := by simp [rowV]
theorem rowV_get (g : Nat → Value) (n j : Nat) (hj : j < n) : (rowV g n)[j]? = some (g j) := by simp [rowV, hj]
theorem rowV_congr {g h : Nat → Value} {n : Nat} (e : ∀ i < n, g i = h i) : rowV g n = rowV h n := List.map_congr_left (fun i hi => e i (List.mem_range.1 hi))
theorem rowV_set (g : Nat → Value) (n j : Nat) (x : Value) : (rowV g n).set j x = rowV (fun i => if i = j then x else g i) n := by
  apply List.ext_getElem?
  intro i
  rw [List.getElem?_set]
  by_cases hi : i < n
  · rw [rowV_get _ _ _ hi, rowV_get _ _ _ hi]
    by_cases hij : j = i
    · subst hij; rw [if_pos rfl, if_pos (by rw [rowV_len]; exact hi)]; simp
    · rw [if_neg hij]; simp [Ne.symm hij]
  · have h1 : (rowV g n)[i]? = none := by rw [List.getElem?_eq_none]; rw [rowV_len]; omega
    have h2 : (rowV (fun i => if i = j then x else g i) n)[i]? = none := by rw [List.getElem?_eq_none]; rw [rowV_len]; omega
    rw [h1, h2]
    split
    · rw [if_neg (by rw [rowV_len]; omega)]
    · rfl
theorem rowV_const (n : Nat) (z : Value) : List.replicate n z = rowV (fun _ => z) n := by
  apply List.ext_getElem?
  intro i
  by_cases hi : i < n
  · rw [rowV_get _ _ _ hi]; simp [hi]
  · simp [rowV, hi]
theorem rank_any (n : Int) (l : List Hol) (day : Int) (ao : Option Addr) (cap b o : Nat) (w : World) (H : Hols w ao l cap b o) (hlen : l.length ≤ 900) (hok : ∀ x ∈ l, x.Ok) :
    Calls Try.prog 44 #[.int .i64 n, .slice ao l.length cap, .int .i64 day] w (OutL w (rankR n l day).1 (rankR n l day).2) := callsIn_wide.1 (rank_in n l day ao cap b o w H hlen hok)
/-- A list of bools and an error. -/
def OutBl (w : World) (xs : List Bool) (er : Int) (e : Ending) (w' : World) : Prop :=
  ∃ ao cap b o, e = .returned (.tuple #[.slice ao xs.length cap, .int .i64 er]) ∧ Sl w' 1 ao xs.length cap b o (xs.map .bool) ∧ Keeps w w'
def fnB (φ : Nat → Bool) (n : Nat) : List Bool := (List.range n).map φ
theorem fnB_len (φ : Nat → Bool) (n : Nat) : (fnB φ n).length = n := by simp [fnB]
theorem fnB_row (φ : Nat → Bool) (n : Nat) : (fnB φ n).map .bool = rowV (fun e => .bool (φ e)) n := by simp [fnB, rowV]
theorem fnB_snoc (φ : Nat → Bool) (n : Nat) : fnB φ (n + 1) = fnB φ n ++ [φ n] := by simp [fnB, List.range_succ]
/-- Who is controlled, and an error. -/
def ctlR (n : Int) (l : List Hol) (day : Int) : List Bool × Int := if (matR n l day).2 = 0 then (fnB (inA (f0 l day) n.toNat n.toNat) n.toNat, 0) else ([], (matR n l day).2)
theorem mat_cases (n : Int) (l : List Hol) (day : Int) : (∃ m : Nat, n = (m : Int) ∧ 1 ≤ m ∧ m ≤ 12 ∧ hvalidB n l = true ∧ matR n l day = (matF (f0 l day) m, 0) ∧ rankR n l day = (fnI (rkA (f0 l day) m m) m, 0) ∧ ctlR n l day = (fnB (inA (f0 l day) m m) m, 0)) ∨
    (∃ re, re ≠ 0 ∧ matR n l day = ([], re) ∧ rankR n l day = ([], re) ∧ ctlR n l day = ([], re)) := by
  cases h1 : hvalidB n l with
  | false =>
    right
    have h := matR_1 (day := day) h1
    exact ⟨1, by decide, h, by unfold rankR; rw [h]; simp, by unfold ctlR; rw [h]; simp⟩
  | true =>
    cases h2 : dateB day with
    | false =>
      right
      have h := matR_2 h1 h2
      exact ⟨2, by decide, h, by unfold rankR; rw [h]; simp, by unfold ctlR; rw [h]; simp⟩
    | true =>
      left
      obtain ⟨hn1, hn2⟩ := hvalidB_n h1
      obtain ⟨m, rfl⟩ : ∃ m : Nat, n = (m : Int) := ⟨n.toNat, by omega⟩
      have h := matR_3 h1 h2
      rw [Int.toNat_natCast, matH_f0] at h
      exact ⟨m, rfl, by omega, by omega, rfl, h, by unfold rankR; rw [h]; simp, by unfold ctlR; rw [h]; simp⟩
theorem rk_in (f : Nat → Nat → Int) (n e : Nat) : decide (0 ≤ rkA f n n e) = inA f n n e := by
  have := rkA_iff (f := f) (n := n) n e
  cases h : inA f n n e with
  | true => exact decide_eq_true (this.2 h)
  | false => rw [h] at this; simp at this; exact decide_eq_false (by omega)
theorem fnI_cell {w : World} {ao : Option Addr} {φ : Nat → Int} {n cap b o : Nat} (H : Sl w 1 ao n cap b o ((fnI φ n).map (.int .i64))) (k : Nat) (hk : k < n) : w.cell? ⟨b, o + k, none⟩ = some (.int .i64 (φ k)) :=
  H.cell k _ (by simp [fnI, hk])
set_option maxRecDepth 100000 in
set_option maxHeartbeats 4000000 in
theorem controlled_any (n : Int) (l : List Hol) (day : Int) (ao : Option Addr) (cap b o : Nat) (w : World) (H : Hols w ao l cap b o) (hlen : l.length ≤ 900) (hok : ∀ x ∈ l, x.Ok) :
    Calls Try.prog 33 #[.int .i64 n, .slice ao l.length cap, .int .i64 day] w (OutBl w (ctlR n l day).1 (ctlR n l day).2) := by
  have hm0 := rank_any n l day ao cap b o w H hlen hok
  rcases mat_cases n l day with ⟨m, rfl, hm1, hm, hv, hq1, hq2, hq3⟩ | ⟨re, h0, hq1, hq2, hq3⟩
  · unfold OutL at hm0
    rw [hq2] at hm0
    simp only [fnI_len] at hm0
    rw [hq3]
    have HM := Lib.hid hm0
    obtain ⟨i0, hi, hz0, hz1, hz2⟩ := info_parts infoBoolC
    clear hm0 hv hq1 hq2 hq3 H hok
    go_enter Try.func33, Try.ntmps33
    go_wp2_with (first | (go_at_call 44; refine HM.out.mono ?_; rintro e1 w1 ⟨ao1, cap1, b1, o1, rfl, hs1, hk1⟩; have HS1 := Lib.hid hs1; have K1 := Lib.hid hk1; have hc1 := hs1.cap; have hl1 := hs1.le; clear hs1 hk1) | (at_make; refine wpList_makeZ _ rfl _ _ 22 rfl 4 i0 (.bool false) Try.underlying22 hi hz0 hz1 rfl _ _ _ _ m rfl rfl rfl rfl (by rw [hz2]; omega) (by omega) ?_))
    have HR0 : Hid (RowB (w1.alloc (Obj.cells (Array.replicate m (Value.bool false)) 4)) w1.heap.size 4 (rowV (fun _ => .bool false) m)) := Lib.hid (by
      rw [← rowV_const]
      have := RowB.new w1 4 (List.replicate m (.bool false))
      simpa using this)
    go_loopw [27] (fun vi wy => ∃ k : Nat, k ≤ m ∧ vi = .int .i64 k ∧ Hid (RowB wy w1.heap.size 4 (rowV (fun e => if e < k then .bool (inA (f0 l day) m m e) else .bool false) m)) ∧ Hid (Keeps w1 wy)) (fun vi _ => m - (intOf vi).toNat)
    case atStart => exact ⟨0, Nat.zero_le _, rfl, Lib.hid (by simpa using HR0.out), Lib.hid ((Keeps.refl w1).alloc _)⟩
    case round =>
      obtain ⟨k, hk, rfl, HX, HKY⟩ := hrel
      by_cases hlt : k < m
      · have c1 := fnI_cell (HS1.out.keeps HKY.out) k hlt
        have hix := (HS1.out.at1 Try.underlying35 Try.sizeOf3 k hlt)
        have hrk := rk_in (f0 l day) m k
        obtain ⟨r, hr⟩ : ∃ r, rkA (f0 l day) m m k = r := ⟨_, rfl⟩
        rw [hr] at c1 hrk
        have HIN := Lib.hid hrk
        have c0 := HX.out.cell k _ (rowV_get _ _ _ hlt)
        have f0' := HX.out.frozen k
        have hb0 := HX.out.lt
        clear hr hrk
        go_wp2_with fail
        go_roundw
        case rel => exact ⟨k + 1, by omega, by go_num, Lib.hid (by
          have := HX.out.set k (.bool (decide (0 ≤ r)))
          rw [rowV_set] at this
          rw [rowV_congr (h := fun e => if e = k then .bool (decide (0 ≤ r)) else if e < k then .bool (inA (f0 l day) m m e) else .bool false)]
          · exact this
          · intro i _
            by_cases h1 : i = k
            · subst h1; rw [if_pos rfl, if_pos (Nat.lt_succ_self _), HIN.out]
            · rw [if_neg h1]
              by_cases h2 : i < k
              · rw [if_pos h2, if_pos (by omega)]
              · rw [if_neg h2, if_neg (by omega)]), Lib.hid (HKY.out.setCell (p := ⟨w1.heap.size, k, none⟩) (Nat.le_refl _) _)⟩
        case measure => simp [intOf]; omega
      · obtain rfl : k = m := by omega
        have HZ : Hid (RowB wr w1.heap.size 4 (rowV (fun e => .bool (inA (f0 l day) k k e)) k)) := Lib.hid (by
          rw [rowV_congr (fun i hi => show (Value.bool (inA (f0 l day) k k i)) = if i < k then .bool (inA (f0 l day) k k i) else .bool false by rw [if_pos hi])]
          exact HX.out)
        go_wp2_with fail
        go_ret2
        refine ⟨some ⟨w1.heap.size, 0, none⟩, k, w1.heap.size, 0, by simp only [fnB_len]; rfl, ?_, K1.out.trans HKY.out⟩
        have h := HZ.out.sl (by rw [rowV_len]; omega)
        rw [rowV_len] at h
        simp only [fnB_len, fnB_row]
        exact h
  · unfold OutL at hm0
    rw [hq2] at hm0
    rw [hq3]
    have HM := Lib.hid hm0
    have e2 : (!(re == 0)) = true := by simpa using h0
    clear hm0 hq1 hq2 hq3 H hok
    go_enter Try.func33, Try.ntmps33
    go_wp2_with (go_at_call 44; refine HM.out.mono ?_; rintro e1 w1 ⟨ao1, cap1, b1, o1, rfl, hs1, hk1⟩; have HS1 := Lib.hid hs1; have K1 := Lib.hid hk1; have hc1 := hs1.cap; have hl1 := hs1.le; clear hs1 hk1)
    go_ret2
    exact ⟨none, 0, 0, 0, rfl, Sl.nil _ _, K1.out⟩
set_option maxRecDepth 100000 in
set_option maxHeartbeats 4000000 in
theorem rrank_any (n : Int) (l : List Hol) (day : Int) (ao : Option Addr) (cap b o : Nat) (w : World) (H : Hols w ao l cap b o) (hlen : l.length ≤ 900) :
    Calls Try.prog 48 #[.int .i64 n, .slice ao l.length cap, .int .i64 day] w (OutL w (rankR n l day).1 (rankR n l day).2) := by
  have hm0 := rmatrix_any n ao l cap b o day w H hlen
  rcases mat_cases n l day with ⟨m, rfl, hm1, hm, hv, hq1, hq2, hq3⟩ | ⟨re, h0, hq1, hq2, hq3⟩
  · unfold OutRows at hm0
    rw [hq1] at hm0
    simp only [matF_len] at hm0
    rw [hq2]
    have HM := Lib.hid hm0
    have HFB := Lib.hid (f0_bd hv day)
    clear hm0 hv hq1 hq2 hq3 H
    go_enter Try.func48, Try.ntmps48
    go_wp2_with (first | (go_at_call 50; refine (ranks_any (f0 l day) m hm1 hm HFB.out ao1 cap1 b1 o1 w1 HS1.out).mono ?_; rintro e2 w2 ⟨ao2, cap2, b2, o2, rfl, hs2, hk2⟩; have HS2 := Lib.hid hs2; have K2 := Lib.hid hk2; clear hs2 hk2) | (go_at_call 49; refine HM.out.mono ?_; rintro e1 w1 ⟨ao1, cap1, b1, o1, rfl, hs1, hk1⟩; have HS1 := Lib.hid hs1; have K1 := Lib.hid hk1; clear hs1 hk1))
    go_ret2
    refine ⟨ao2, cap2, b2, o2, by simp only [fnI_len]; rfl, ?_, K1.out.trans K2.out⟩
    simp only [fnI_len]
    exact HS2.out
  · unfold OutRows at hm0
    rw [hq1] at hm0
    rw [hq2]
    have HM := Lib.hid hm0
    have e2 : (!(re == 0)) = true := by simpa using h0
    clear hm0 hq1 hq2 hq3 H
    go_enter Try.func48, Try.ntmps48
    go_wp2_with (go_at_call 49; refine HM.out.mono ?_; rintro e1 w1 ⟨ao1, cap1, b1, o1, rfl, hs1, hk1⟩; have K1 := Lib.hid hk1; clear hs1 hk1)
    go_ret2
    exact ⟨none, 0, 0, 0, rfl, Sl.nil _ _, K1.out⟩
set_option maxRecDepth 100000 in
set_option maxHeartbeats 4000000 in
theorem rcontrolled_any (n : Int) (l : List Hol) (day : Int) (ao : Option Addr) (cap b o : Nat) (w : World) (H : Hols w ao l cap b o) (hlen : l.length ≤ 900) :
    Calls Try.prog 35 #[.int .i64 n, .slice ao l.length cap, .int .i64 day] w (OutBl w (ctlR n l day).1 (ctlR n l day).2) := by
  have hm0 := rrank_any n l day ao cap b o w H hlen
  rcases mat_cases n l day with ⟨m, rfl, hm1, hm, hv, hq1, hq2, hq3⟩ | ⟨re, h0, hq1, hq2, hq3⟩
  · unfold OutL at hm0
    rw [hq2] at hm0
    simp only [fnI_len] at hm0
    rw [hq3]
    have HM := Lib.hid hm0
    clear hm0 hv hq1 hq2 hq3 H
    go_enter Try.func35, Try.ntmps35
    go_wp2_with (go_at_call 48; refine HM.out.mono ?_; rintro e1 w1 ⟨ao1, cap1, b1, o1, rfl, hs1, hk1⟩; have HS1 := Lib.hid hs1; have K1 := Lib.hid hk1; have hc1 := hs1.cap; have hl1 := hs1.le; clear hs1 hk1)
    go_loopw [10, 11] (fun vo vi wy => ∃ k : Nat, k ≤ m ∧ vi = .int .i64 k ∧ Hid (Keeps w1 wy ∧ wy.ownsRow w1.heap.size 4 1 vo k ((fnB (inA (f0 l day) m m) k).map .bool))) (fun _ vi _ => m - (intOf vi).toNat)
    case atStart => exact ⟨0, Nat.zero_le _, rfl, Lib.hid ⟨Keeps.refl _, World.ownsRow_nil _ _ _ _⟩⟩
    case round =>
      obtain ⟨k, hk, rfl, HX⟩ := hrel
      by_cases hlt : k < m
      · have c1 := fnI_cell (HS1.out.keeps HX.out.1) k hlt
        have hix := (HS1.out.at1 Try.underlying35 Try.sizeOf3 k hlt)
        have hrk := rk_in (f0 l day) m k
        obtain ⟨r, hr⟩ : ∃ r, rkA (f0 l day) m m k = r := ⟨_, rfl⟩
        rw [hr] at c1 hrk
        have HIN := Lib.hid hrk
        clear hr hrk
        go_wp2_with (at_builtin; refine wpList_appx elemBool rfl _ _ rfl w1 _ _ _ rfl w1.heap.size HX.out.2 HX.out.1 HX.out.1.size [.bool (decide (0 ≤ r))] _ 1 rfl rfl rfl (by intro u hu; simp at hu; subst hu; rfl) (by omega) (by omega) ?_; intro v5 w5 hown5 hb5 hsz5; have HV5 : Hid (Keeps w1 w5 ∧ w5.ownsRow w1.heap.size 4 1 v5 (k + 1) ((fnB (inA (f0 l day) m m) (k + 1)).map .bool)) := Lib.hid ⟨hb5, by rw [fnB_snoc, List.map_append, ← HIN.out]; exact hown5⟩; clear hown5 hb5 hsz5)
        go_roundw
        case rel => exact ⟨k + 1, by omega, by go_num, HV5⟩
        case measure => simp [intOf]; omega
      · obtain rfl : k = m := by omega
        obtain ⟨hky, howny⟩ := HX.out
        obtain ⟨ao7, cap7, b7, rfl, hs7⟩ := Sl.own howny
        have HS7 := Lib.hid hs7
        have HK := Lib.hid hky
        clear hky howny hs7 HX
        go_wp2_with fail
        go_ret2
        refine ⟨ao7, cap7, b7, 0, by simp only [fnB_len]; rfl, ?_, K1.out.trans HK.out⟩
        simp only [fnB_len]
        exact HS7.out
  · unfold OutL at hm0
    rw [hq2] at hm0
    rw [hq3]
    have HM := Lib.hid hm0
    have e2 : (!(re == 0)) = true := by simpa using h0
    clear hm0 hq1 hq2 hq3 H
    go_enter Try.func35, Try.ntmps35
    go_wp2_with (go_at_call 48; refine HM.out.mono ?_; rintro e1 w1 ⟨ao1, cap1, b1, o1, rfl, hs1, hk1⟩; have HS1 := Lib.hid hs1; have K1 := Lib.hid hk1; have hc1 := hs1.cap; have hl1 := hs1.le; clear hs1 hk1)
    go_ret2
    exact ⟨none, 0, 0, 0, rfl, Sl.nil _ _, K1.out⟩
end Go.Proofs.Ytkpdimbblcmnaaa
