/- control.steps: the iterator over the sets found in each step: the walk. -/
import Derived.Test.YtkpdimbblcmnaaaHolPairW
import Derived.Test.YtkpdimbblcmnaaaKCtl
namespace Go.Proofs.Ytkpdimbblcmnaaa
open Go.RowKit Go.Shelf
attribute [local go_sem] Oper.semAt_some
set_option linter.unusedSimpArgs false
set_option linter.unusedVariables false

/-- Rows read alike where their cells lie alike. -/
theorem Rows.of_cells {w w' : World} {ao : Option Addr} {ls : List (List Int)} {cap b o : Nat} (h : Rows w ao ls cap b o) (hc : ∀ p v, w.cell? p = some v → w'.cell? p = some v) : Rows w' ao ls cap b o := by
  obtain ⟨vs, h1, h2⟩ := h
  refine ⟨vs, ⟨h1.len, h1.le, h1.nocap, h1.cap, h1.addr, fun j u hu => hc _ _ (h1.cell j u hu)⟩, h2.1, fun i a1 a2 => ?_⟩
  obtain ⟨ao2, cap2, b2, o2, e, hs⟩ := h2.2 i a1 a2
  exact ⟨ao2, cap2, b2, o2, e, hs.len, hs.le, hs.nocap, hs.cap, hs.addr, fun j u hu => hc _ _ (hs.cell j u hu)⟩
/-- The first k steps. -/
def stepsL (f : Nat → Nat → Int) (n k : Nat) : List (Nat × Nat) := (List.range k).map fun i => (i, encB (frA f n i) n)
theorem stepsL_snoc (f : Nat → Nat → Int) (n k : Nat) : stepsL f n (k + 1) = stepsL f n k ++ [(k, encB (frA f n k) n)] := by simp [stepsL, List.range_succ]
theorem stepsL_len (f : Nat → Nat → Int) (n k : Nat) : (stepsL f n k).length = k := by simp [stepsL]
/-- All steps. -/
def StepsS (f : Nat → Nat → Int) (n : Nat) (ys : List (Nat × Nat)) : Prop := ∃ k, ys = stepsL f n k ∧ 1 ≤ k ∧ (∀ j < k, ∃ e, frA f n j e = true) ∧ ∀ e, frA f n k e = false
theorem encB_one {n : Nat} (hn : 1 ≤ n) {S : Nat → Bool} (h : ∀ i, S i = (i == 0)) : encB S n = 1 := by
  induction n with
  | zero => omega
  | succ k ih =>
    simp only [encB]
    rw [h k]
    cases k with
    | zero => rfl
    | succ k => rw [ih (by omega)]; rfl
theorem frA_lt {f : Nat → Nat → Int} {n : Nat} (hn : 1 ≤ n) {k e : Nat} (h : frA f n k e = true) : e < n := by
  cases k with
  | zero => exact inA_lt hn h
  | succ k => simp only [frA, Bool.and_eq_true] at h; exact inA_lt hn h.1
theorem encB_empty {f : Nat → Nat → Int} {n : Nat} (hn : 1 ≤ n) {k : Nat} (h : ¬ ∃ e, frA f n k e = true) : encB (frA f n k) n = 0 :=
  (encB_zero _ _).2 fun i _ => by
    cases h1 : frA f n k i with
    | false => rfl
    | true => exact absurd ⟨i, h1⟩ h
theorem encB_some {f : Nat → Nat → Int} {n : Nat} (hn : 1 ≤ n) {k : Nat} (h : ∃ e, frA f n k e = true) : encB (frA f n k) n ≠ 0 := fun h0 => by
  obtain ⟨e, he⟩ := h
  have := (encB_zero _ _).1 h0 e (frA_lt hn he)
  rw [he] at this; cases this
theorem encB_next (f : Nat → Nat → Int) (n k : Nat) : encB (fun i => inA f n k i || frA f n (k + 1) i) n = encB (inA f n (k + 1)) n := by
  congr 1
  funext i
  simp only [frA]
  cases h : inA f n k i with
  | true => simp [inA_succ h]
  | false => simp

set_option maxHeartbeats 1000000 in
theorem steps_in (F : Fence) (n : Nat) (h1 : F.fn 46) (hro : F.round = none) (ao : Option Addr) (len cap : Nat) (w : World) :
    CallsIn F n Try.prog 46 #[.slice ao len cap] w fun en w' => en = .returned (.func (.func 58) #[] #[.pointer (some ⟨w.heap.size, 0, none⟩)]) ∧
      w' = w.alloc (.cells #[.slice ao len cap] 77) := by
  refine callsIn_of_wp Try.func46 rfl h1 ?_ hro
  simp only [Try.ntmps46, List.size_toArray, List.length_cons, List.length_nil, Nat.reduceAdd, Nat.reduceSub, Array.replicate_succ, Array.replicate_zero, List.push_toArray, List.append_toArray, List.nil_append, List.cons_append]
  gi_wp2
  go_ret
  exact ⟨rfl, rfl⟩

set_option maxRecDepth 100000 in
set_option maxHeartbeats 4000000 in
theorem steps1_in (n' : Nat) (hn' : 2 ≤ n') (l B0 N0 lo hi : Nat) (ao : Option Addr) (f : Nat → Nat → Int) (n cap b o : Nat) (hn1 : 1 ≤ n) (hn : n ≤ 12) (hf : ∀ h e, 0 ≤ f h e ∧ f h e ≤ 10000) (J Jx : List (Nat × Nat) → World → Prop) (wb : World) (hR : Rows wb ao (matF f n) cap b o)
    (hB0 : B0 < N0) (hhi : hi ≤ B0) (hlo : wb.heap.size ≤ lo) (hlN : lo ≤ N0)
    (hY : ∀ pre x W, J pre W → pre.length < n → YieldAt Fence.wide (n' - 1) Try.prog l #[.int .i64 (x.1 : Nat), .int .u16 (x.2 : Nat)] W fun en W' =>
      (en = .returned (.bool true) ∧ J (pre ++ [x]) W' ∧ KeepBut N0 lo hi W W') ∨ (en = .returned (.bool false) ∧ Jx (pre ++ [x]) W'))
    (W : World) (hN : N0 ≤ W.heap.size) (hk : Keeps wb W) (c0 : W.cell? ⟨B0, 0, none⟩ = some (.slice ao n cap)) (h0 : J [] W) :
    CallsIn Fence.wide n' Try.prog 58 #[.func (.yield l) #[] #[], .pointer (some ⟨B0, 0, none⟩)] W fun en W' => (∃ v, en = .returned v) ∧
      ((∃ ys, StepsS f n ys ∧ J ys W') ∨ (∃ pre, True ∧ Jx pre W')) := by
  have hcap := hR.cap
  have hle := hR.le
  rw [matF_len] at hle
  have HR := Lib.hid hR
  have HY := Lib.hid hY
  have HF := Lib.hid hf
  have HK := Lib.hid hk
  have HC0 := Lib.hid c0
  have HRW : Hid (∀ W', KeepBut N0 lo hi W W' → Rows W' ao (matF f n) cap b o) := Lib.hid (fun W' h => HR.out.of_cells fun p v hp => h.cell (by have := World.block_lt_of_cell? _ _ hp; omega) (.inl (by have := World.block_lt_of_cell? _ _ hp; omega)) (HK.out.cell hp))
  have hfv : Fence.wide.fn 47 := trivial
  have hd1 : 1 ≤ n' := by omega
  clear hR hY hf hk c0
  refine callsIn_of_wp Try.func58 rfl trivial ?_ rfl
  simp only [Try.ntmps58, List.size_toArray, List.length_cons, List.length_nil, Nat.reduceAdd, Nat.reduceSub, Array.replicate_succ, Array.replicate_zero, List.push_toArray, List.append_toArray, List.nil_append, List.cons_append]
  gi_wp2
  gi_loopw [3, 4, 5] (fun va vf vi wr => ∃ k : Nat, k ≤ n ∧ vi = .int .i64 k ∧ va = .int .u16 (encB (inA f n k) n : Nat) ∧ vf = .int .u16 (encB (frA f n k) n : Nat) ∧ Hid (∀ j < k, ∃ e, frA f n j e = true) ∧ Hid (J (stepsL f n k) wr ∧ KeepBut N0 lo hi W wr ∧ W.heap.size ≤ wr.heap.size)) (fun _ _ vi _ => n - (intOf vi).toNat)
  case atStart =>
    have h1 := encB_one hn1 (S := inA f n 0) fun i => rfl
    have h2 := encB_one hn1 (S := frA f n 0) fun i => rfl
    exact ⟨0, Nat.zero_le _, rfl, by rw [h1]; rfl, by rw [h2]; rfl, Lib.hid fun j hj => absurd hj (Nat.not_lt_zero _), Lib.hid ⟨h0, KeepBut.refl _ _ _ _, Nat.le_refl _⟩⟩
  case round =>
    obtain ⟨k, hk, rfl, rfl, rfl, HE, HW⟩ := hrel
    by_cases hex : ∃ e, frA f n k e = true
    · have hne := encB_some hn1 hex
      have hkn : k < n := step_lt hn1 (k := k) fun j hj => by
        by_cases hjk : j = k
        · subst hjk; exact hex
        · exact HE.out j (by omega)
      have HE2 : Hid (∀ j < k + 1, ∃ e, frA f n j e = true) := Lib.hid fun j hj => by
        by_cases hjk : j = k
        · subst hjk; exact hex
        · exact HE.out j (by omega)
      obtain ⟨fn, tmps, assign, body, hy, hRd⟩ := HY.out _ (k, encB (frA f n k) n) _ HW.out.1 (by rw [stepsL_len]; exact hkn)
      have HRd := Lib.hid hRd
      have hz : (((encB (frA f n k) n : Nat) : Int) != 0) = true := by simpa using hne
      clear hRd hex
      gi_wp2
      first | refine HRd.out.mono ?_ | refine ⟨fun _ => by omega, HRd.out.mono ?_⟩
      rintro en W3 (⟨rfl, hJ3, hk3⟩ | ⟨rfl, hJx3⟩)
      · have HJ3 : Hid (J (stepsL f n (k + 1)) W3) := Lib.hid (by rw [stepsL_snoc]; exact hJ3)
        have HKW3 := Lib.hid (HW.out.2.1.trans hk3)
        have HSZ := Lib.hid (Nat.le_trans HW.out.2.2 hk3.size)
        have c3 := HKW3.out.cell (p := ⟨B0, 0, none⟩) hB0 (.inr hhi) HC0.out
        have HV : Hid (∀ j, j < n → CallsIn Fence.wide (n' - 1) Try.prog 47 #[.slice ao n cap, .int .u16 (encB (inA f n k) n : Nat), .int .i64 (j : Int)] W3 fun en w' => en = .returned (.int .i64 (voteK f (inA f n k) j n)) ∧ w' = W3) := Lib.hid fun j hj => callsIn_wide.2 (votes_any f n hn HF.out (inA f n k) j hj ao cap b o W3 (HRW.out _ HKW3.out))
        clear hJ3 hk3
        gi_wp2
        gi_loopw [4, 20] (fun vf vj wx => ∃ j : Nat, j ≤ n ∧ vj = .int .i64 j ∧ vf = .int .u16 (encB (frA f n (k + 1)) j : Nat) ∧ wx = W3) (fun _ vj _ => n - (intOf vj).toNat)
        case atStart => exact ⟨0, Nat.zero_le _, rfl, rfl, rfl⟩
        case round =>
          obtain ⟨j, hj, rfl, rfl, rfl⟩ := hrel
          by_cases hlj : j < n
          · cases hin : inA f n k j with
            | true =>
              have hb := bit16_yes hn hlj hin
              have hfr : frA f n (k + 1) j = false := by simp [frA, hin]
              have he : encB (frA f n (k + 1)) (j + 1) = encB (frA f n (k + 1)) j := by simp [encB, hfr]
              have HEE := Lib.hid he
              clear he hfr hin
              gi_wp2
              go_roundw
              case rel => exact ⟨j + 1, by omega, by go_num, by rw [HEE.out], trivial⟩
              case measure => simp [intOf]; omega
            | false =>
              have hb := bit16_no hn hlj hin
              obtain ⟨v, hv⟩ : ∃ v, voteK f (inA f n k) j n = v := ⟨_, rfl⟩
              have HVJ := HV.out j hlj
              rw [hv] at HVJ
              have HVJ := Lib.hid HVJ
              by_cases h5 : 5000 < v
              · have h5' : decide (5000 < v) = true := decide_eq_true h5
                have hfr : frA f n (k + 1) j = true := by simp [frA, inA, hin, hv, h5, hlj]
                have hor := orBit' (S := frA f n (k + 1)) (e := j) (by omega) hfr
                clear hfr hin hv h5
                gi_wp2_with (gi_at_call 47; refine HVJ.out.mono ?_; rintro en w4 ⟨rfl, rfl⟩)
                go_roundw
                case rel => exact ⟨j + 1, by omega, by go_num, by first | rfl | rw [hor], trivial⟩
                case measure => simp [intOf]; omega
              · have h5' : decide (5000 < v) = false := decide_eq_false h5
                have hfr : frA f n (k + 1) j = false := by simp [frA, inA, hin, hv, h5]
                have he : encB (frA f n (k + 1)) (j + 1) = encB (frA f n (k + 1)) j := by simp [encB, hfr]
                have HEE := Lib.hid he
                clear he hfr hin hv h5
                gi_wp2_with (gi_at_call 47; refine HVJ.out.mono ?_; rintro en w4 ⟨rfl, rfl⟩)
                go_roundw
                case rel => exact ⟨j + 1, by omega, by go_num, by rw [HEE.out], trivial⟩
                case measure => simp [intOf]; omega
          · obtain rfl : j = n := by omega
            have hor := orEnc (inA f j k) (frA f j (k + 1)) hn
            rw [encB_next] at hor
            gi_wp2
            go_roundw
            case rel => exact ⟨k + 1, by omega, by go_num, rfl, rfl, HE2, Lib.hid ⟨HJ3.out, HKW3.out, HSZ.out⟩⟩
            case measure => simp [intOf]; omega
      · gi_wp2

        go_end0
        exact ⟨⟨_, rfl⟩, .inr ⟨_, trivial, hJx3⟩⟩
    · have hz := encB_empty hn1 hex
      have hk1 : 1 ≤ k := by
        rcases Nat.eq_zero_or_pos k with rfl | h
        · exact absurd ⟨0, rfl⟩ hex
        · exact h
      have HX : Hid (StepsS f n (stepsL f n k)) := Lib.hid ⟨k, rfl, hk1, HE.out, fun e => by
        cases h1 : frA f n k e with
        | false => rfl
        | true => exact absurd ⟨e, h1⟩ hex⟩
      clear hex
      gi_wp2
      refine ⟨fun _ h => (by cases h), ?_⟩
      gi_wp2
      go_end0
      exact ⟨⟨_, rfl⟩, .inl ⟨_, HX.out, HW.out.1⟩⟩
end Go.Proofs.Ytkpdimbblcmnaaa
