/- The reference's ranks: the walk. -/
import Derived.Test.YtkpdimbblcmnaaaCtlRankW
namespace Go.Proofs.Ytkpdimbblcmnaaa
open Go.RowKit
set_option linter.unusedSimpArgs false
set_option linter.unusedVariables false

/-- Within step k + 1, e of the ranks being new. -/
def rkW (f : Nat → Nat → Int) (n k e : Nat) : Nat → Int := fun i => if i < e then rkA f n (k + 1) i else rkA f n k i
theorem rkW_in {f : Nat → Nat → Int} {n k e i : Nat} : (0 ≤ rkW f n k e i ∧ rkW f n k e i < (k : Int) + 1) ↔ inA f n k i = true := by
  unfold rkW
  split
  · exact rk_within k i
  · rw [← rkA_iff]
    have := rkA_le (f := f) (n := n) k i
    omega
theorem rkW_old {f : Nat → Nat → Int} {n k e : Nat} : rkW f n k e e = rkA f n k e := by unfold rkW; rw [if_neg (Nat.lt_irrefl _)]
theorem rkW_yes {f : Nat → Nat → Int} {n k e : Nat} (he : e < n) (h1 : rkA f n k e < 0) (h2 : 5000 < voteK f (inA f n k) e n) (i : Nat) : updI (rkW f n k e) e ((k : Int) + 1) i = rkW f n k (e + 1) i := by
  have h3 : inA f n k e = false := by
    cases h : inA f n k e with
    | false => rfl
    | true => have := (rkA_iff k e).2 h; omega
  have h4 : frA f n (k + 1) e = true := by simp [frA, inA, h3, he, h2]
  have h5 := rkA_new h4
  refine ups_yes (A := rkA f n (k + 1)) (F := rkA f n k) h5 i
theorem rkW_no {f : Nat → Nat → Int} {n k e : Nat} (h : ¬ (rkA f n k e < 0 ∧ 5000 < voteK f (inA f n k) e n)) (i : Nat) : rkW f n k e i = rkW f n k (e + 1) i := by
  have h4 : frA f n (k + 1) e = false := by
    cases h3 : inA f n k e with
    | true => simp [frA, h3]
    | false =>
      have h5 := rkA_neg h3
      have h6 : ¬ 5000 < voteK f (inA f n k) e n := fun h7 => h ⟨by omega, h7⟩
      simp [frA, inA, h3, h6]
  exact ups_no (A := rkA f n (k + 1)) (F := rkA f n k) (rkA_old h4) i
theorem rk_first (n : Nat) (f : Nat → Nat → Int) (i : Nat) : (if i = 0 then 0 else if i < n then (-1 : Int) else 0) = if i < n then rkA f n 0 i else 0 := by
  simp only [rkA]
  by_cases h : i = 0
  · subst h; by_cases h2 : 0 < n <;> simp [h2]
  · by_cases h2 : i < n <;> simp [h, h2]
/-- Ahead of the steps. -/
def rk1 (k : Nat) : Nat → Int := fun i => if i = 0 then 0 else if i < k then -1 else 0
theorem rk1_one (i : Nat) : rk1 1 i = 0 := by
  simp only [rk1]
  by_cases h : i = 0
  · rw [if_pos h]
  · rw [if_neg h, if_neg (by omega)]
theorem rk1_step (k : Nat) (hk : 1 ≤ k) (i : Nat) : updI (rk1 k) k (-1) i = rk1 (k + 1) i := by
  simp only [updI, rk1]
  by_cases h1 : i = k
  · subst h1; rw [if_pos rfl, if_neg (by omega), if_pos (Nat.lt_succ_self _)]
  · rw [if_neg h1]
    by_cases h0 : i = 0
    · rw [if_pos h0, if_pos h0]
    · rw [if_neg h0, if_neg h0]
      by_cases h2 : i < k
      · rw [if_pos h2, if_pos (by omega)]
      · rw [if_neg h2, if_neg (by omega)]
theorem rk1_end (f : Nat → Nat → Int) (n : Nat) (i : Nat) (hi : i < n) : rk1 n i = rkA f n 0 i := by
  simp only [rk1, rkA]
  by_cases h0 : i = 0
  · rw [if_pos h0, if_pos h0]
  · rw [if_neg h0, if_neg h0, if_pos hi]
/-- How the ranks lie. -/
def RkW (w W : World) (n : Nat) (φ : Nat → Int) : Prop := RowB W w.heap.size 3 (rowI φ n) ∧ Keeps w W
theorem RkW.congr {w W : World} {n : Nat} {φ ψ : Nat → Int} (h : RkW w W n φ) (e : ∀ i < n, φ i = ψ i) : RkW w W n ψ := ⟨by rw [← rowI_congr e]; exact h.1, h.2⟩
theorem RkW.set {w W : World} {n : Nat} {φ : Nat → Int} (h : RkW w W n φ) (j : Nat) (x : Int) : RkW w (W.setCell ⟨w.heap.size, j, none⟩ (.int .i64 x)) n (updI φ j x) :=
  ⟨by rw [← rowI_set]; exact h.1.set j _, h.2.setCell (Nat.le_refl _) _⟩
set_option maxRecDepth 100000 in
set_option maxHeartbeats 4000000 in
theorem ranks_any (f : Nat → Nat → Int) (n : Nat) (hn1 : 1 ≤ n) (hn : n ≤ 12) (hf : ∀ h e, 0 ≤ f h e ∧ f h e ≤ 10000) (ao : Option Addr) (cap b o : Nat) (w : World) (H : Rows w ao (matF f n) cap b o) :
    Calls Try.prog 50 #[.slice ao n cap] w fun en w' => ∃ ao cap b o, en = .returned (.slice ao n cap) ∧ Sl w' 1 ao n cap b o ((fnI (rkA f n n) n).map (.int .i64)) ∧ Keeps w w' := by
  have hcap := H.cap
  have hle := H.le
  rw [matF_len] at hle
  have HH := Lib.hid H
  have HF := Lib.hid hf
  obtain ⟨i0, hi, hz0, hz1, hz2⟩ := info_parts infoIntC
  clear H hf
  go_enter Try.func50, Try.ntmps50
  go_wp2_with (at_make; refine wpList_makeZ _ rfl _ _ 35 rfl 3 i0 (.int .i64 0) Try.underlying35 hi hz0 hz1 rfl _ _ _ _ n rfl rfl rfl rfl (by rw [hz2]; omega) (by omega) ?_)
  have HR0 : Hid (RkW w (w.alloc (Obj.cells (Array.replicate n (Value.int IntKind.i64 0)) 3)) n (rk1 1)) := Lib.hid ⟨by
    rw [rowI_congr (φ := rk1 1) (ψ := fun _ => 0) (fun i _ => rk1_one i), ← rowI_zero]
    have := RowB.new w 3 (List.replicate n (.int .i64 0))
    simpa using this, (Keeps.refl w).alloc _⟩
  go_loopw [4] (fun vi wy => ∃ k : Nat, 1 ≤ k ∧ k ≤ n ∧ vi = .int .i64 k ∧ Hid (RkW w wy n (rk1 k))) (fun vi _ => n - (intOf vi).toNat)
  case atStart => exact ⟨1, Nat.le_refl _, hn1, rfl, HR0⟩
  case round =>
    obtain ⟨k, hk1, hk, rfl, HX⟩ := hrel
    by_cases hlt : k < n
    · have c0 := HX.out.1.cell k _ (rowI_get _ _ _ hlt)
      have f0' := HX.out.1.frozen k
      have hb0 := HX.out.1.lt
      go_wp2_with fail
      go_roundw
      case rel => exact ⟨k + 1, by omega, by omega, by go_num, Lib.hid ((HX.out.set k (-1)).congr fun i _ => rk1_step k hk1 i)⟩
      case measure => simp [intOf]; omega
    · obtain rfl : k = n := by omega
      have HX1 := Lib.hid (HX.out.congr (rk1_end f k))
      clear HX
      go_wp2_with fail
      go_loopw [5] (fun vi wy => ∃ s : Nat, s ≤ k ∧ vi = .int .i64 ((s : Int) + 1) ∧ Hid (RkW w wy k (rkA f k s))) (fun vi _ => k + 1 - (intOf vi).toNat)
      case atStart => exact ⟨0, Nat.zero_le _, rfl, HX1⟩
      case round =>
        obtain ⟨s, hs, rfl, HS⟩ := hrel
        by_cases hls : s < k
        · go_wp2_with fail
          go_loopw [6] (fun vi wy => ∃ e : Nat, e ≤ k ∧ vi = .int .i64 e ∧ Hid (RkW w wy k (rkW f k s e))) (fun vi _ => k - (intOf vi).toNat)
          case atStart => exact ⟨0, Nat.zero_le _, rfl, Lib.hid (HS.out.congr fun i _ => by unfold rkW; rw [if_neg (Nat.not_lt_zero _)])⟩
          case round =>
            obtain ⟨e, he, rfl, HE⟩ := hrel
            obtain ⟨wo, rfl⟩ : ∃ wo : World, wo = wr := ⟨_, rfl⟩
            by_cases hle2 : e < k
            · go_wp2_with fail
              go_loopw [7, 8] (fun vt vi wy => ∃ (j : Nat) (t : Int), j ≤ k ∧ vi = .int .i64 j ∧ vt = .int .i64 t ∧ 0 ≤ t ∧ t ≤ 120000 ∧ Hid (t = voteK f (inA f k s) e j) ∧ wy = wo) (fun _ vi _ => k - (intOf vi).toNat)
              case atStart => exact ⟨0, 0, Nat.zero_le _, rfl, rfl, by omega, by omega, Lib.hid rfl, rfl⟩
              case round =>
                obtain ⟨j, t, hj, rfl, rfl, ht0, ht1, HT, rfl⟩ := hrel
                by_cases hlj : j < k
                · obtain ⟨ao2, cap2, b2, o2, m0, h2, h3, h4, h5⟩ := matF_at (HH.out.keeps HE.out.2) j hlj
                  have hix := matF_ix HH.out j hlj
                  have hiy := h5 e hle2
                  have m1 := h4 e hle2
                  have c0 := HE.out.1.cell j _ (rowI_get _ _ _ hlj)
                  have hb0 := HE.out.1.lt
                  obtain ⟨x, hx⟩ : ∃ x, f j e = x := ⟨_, rfl⟩
                  have hxb := HF.out j e
                  rw [hx] at m1 hxb
                  obtain ⟨hx0, hx1⟩ := hxb
                  obtain ⟨r, hr⟩ : ∃ r, rkW f k s e j = r := ⟨_, rfl⟩
                  have hin := rkW_in (f := f) (n := k) (k := s) (e := e) (i := j)
                  rw [hr] at c0 hin
                  clear h4 h5 hr
                  by_cases hr0 : 0 ≤ r
                  · have r1 : decide (0 ≤ r) = true := decide_eq_true hr0
                    by_cases hr1 : r < (s : Int) + 1
                    · have r2 : decide (r < (s : Int) + 1) = true := decide_eq_true hr1
                      have HN : Hid (t + x = voteK f (inA f k s) e (j + 1)) := Lib.hid (by rw [HT.out]; simp only [voteK]; rw [hin.1 ⟨hr0, hr1⟩, hx]; rfl)
                      have hsn : t + x ≤ 120000 := by
                        rw [HN.out]
                        have := (voteK_bd HF.out (inA f k s) e (j + 1)).2
                        omega
                      clear hin hx
                      go_wp2_with fail
                      go_roundw
                      case rel => exact ⟨j + 1, t + x, by omega, by go_num, rfl, by omega, by omega, HN, trivial⟩
                      case measure => simp [intOf]; omega
                    · have r2 : decide (r < (s : Int) + 1) = false := decide_eq_false hr1
                      have hi0 : inA f k s j = false := by
                        cases h : inA f k s j with
                        | false => rfl
                        | true => exact absurd (hin.2 h).2 hr1
                      have HN : Hid (t = voteK f (inA f k s) e (j + 1)) := Lib.hid (by rw [HT.out]; simp only [voteK]; rw [hi0]; simp)
                      clear hin hx hi0
                      go_wp2_with fail
                      go_roundw
                      case rel => exact ⟨j + 1, t, by omega, by go_num, rfl, by omega, by omega, HN, trivial⟩
                      case measure => simp [intOf]; omega
                  · have r1 : decide (0 ≤ r) = false := decide_eq_false hr0
                    have hi0 : inA f k s j = false := by
                      cases h : inA f k s j with
                      | false => rfl
                      | true => exact absurd (hin.2 h).1 hr0
                    have HN : Hid (t = voteK f (inA f k s) e (j + 1)) := Lib.hid (by rw [HT.out]; simp only [voteK]; rw [hi0]; simp)
                    clear hin hx hi0
                    go_wp2_with fail
                    go_roundw
                    case rel => exact ⟨j + 1, t, by omega, by go_num, rfl, by omega, by omega, HN, trivial⟩
                    case measure => simp [intOf]; omega
                · obtain rfl : j = k := by omega
                  have c0 := HE.out.1.cell e _ (rowI_get _ _ _ hle2)
                  rw [rkW_old] at c0
                  have f0' := HE.out.1.frozen e
                  have hb0 := HE.out.1.lt
                  obtain ⟨r, hr⟩ : ∃ r, rkA f j s e = r := ⟨_, rfl⟩
                  have HYES : Hid (r < 0 → 5000 < t → ∀ i, updI (rkW f j s e) e ((s : Int) + 1) i = rkW f j s (e + 1) i) := Lib.hid (fun h1 h2 i => rkW_yes hle2 (by rw [hr]; exact h1) (by rw [← HT.out]; exact h2) i)
                  have HNO : Hid (¬ (r < 0 ∧ 5000 < t) → ∀ i, rkW f j s e i = rkW f j s (e + 1) i) := Lib.hid (fun h i => rkW_no (by rw [hr, ← HT.out]; exact h) i)
                  rw [hr] at c0
                  clear hr
                  by_cases hr0 : r < 0
                  · have r1 : decide (r < 0) = true := decide_eq_true hr0
                    by_cases ht5 : 5000 < t
                    · have r2 : decide (5000 < t) = true := decide_eq_true ht5
                      go_wp2_with fail
                      go_roundw
                      case rel => exact ⟨e + 1, by omega, by go_num, Lib.hid ((HE.out.set e ((s : Int) + 1)).congr fun i _ => HYES.out hr0 ht5 i)⟩
                      case measure => simp [intOf]; omega
                    · have r2 : decide (5000 < t) = false := decide_eq_false ht5
                      go_wp2_with fail
                      go_roundw
                      case rel => exact ⟨e + 1, by omega, by go_num, Lib.hid (HE.out.congr fun i _ => HNO.out (fun h => ht5 h.2) i)⟩
                      case measure => simp [intOf]; omega
                  · have r1 : decide (r < 0) = false := decide_eq_false hr0
                    go_wp2_with fail
                    go_roundw
                    case rel => exact ⟨e + 1, by omega, by go_num, Lib.hid (HE.out.congr fun i _ => HNO.out (fun h => hr0 h.1) i)⟩
                    case measure => simp [intOf]; omega
            · obtain rfl : e = k := by omega
              have HZ : Hid (RkW w wo e (rkA f e (s + 1))) := Lib.hid (HE.out.congr fun i hi => by unfold rkW; rw [if_pos hi])
              go_wp2_with fail
              go_roundw
              case rel => exact ⟨s + 1, by omega, by go_num, HZ⟩
              case measure => simp [intOf]; omega
        · obtain rfl : s = k := by omega
          go_wp2_with fail
          go_ret
          exact ⟨_, _, _, _, rfl, HS.out.1.slI (by omega), HS.out.2⟩
end Go.Proofs.Ytkpdimbblcmnaaa
