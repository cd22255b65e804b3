/- Go's symmetric merge over the comparison of places: the walk, first part. -/
import Derived.Test.YtfddhmhagijodaaStK
import Derived.Shelf.SlSortCmp.QuietGrown
namespace Go.Proofs.Ytfddhmhagijodaa
open Go.RowKit Go.Shelf Go.Lib Go.Sort
set_option linter.unusedSimpArgs false
set_option linter.unusedVariables false

/-- What a merge of the sorted blocks from a to m and from m to b gives. -/
def MrgPost (w0 : World) (blk off n k8 : Nat) (pl : Int → Plc) (rs : Int → Int) (d0 : Nat → Int) (x z : Nat) (e : Ending) (w' : World) : Prop :=
  e = .returned (.tuple #[]) ∧ ∃ d, ST w0 blk off n k8 pl d w' ∧ Srt (rs) d x z ∧ Same x z d0 d

set_option maxRecDepth 100000 in
set_option maxHeartbeats 4000000 in
theorem sym_one_left (w0 w : World) (blk off n k8 : Nat) (R : SR w0 blk off n k8) (pl : Int → Plc) (rs : Int → Int) (hcf : CfP pl rs n) (d0 : Nat → Int) (h : ST w0 blk off n k8 pl d0 w) (c : Nat)
    (x z : Nat) (hxz : x + 1 < z) (hzn : z ≤ n) (hn : n ≤ 100000) (hs : Srt (rs) d0 (x + 1) z) (hl : Low d0 x (x + 1) z) :
    Calls Try.prog 79 #[.slice (some ⟨blk, off, none⟩) n c, .int .i64 x, .int .i64 (x + 1), .int .i64 z, .func (.func 52) #[] #[]] w
      fun e w' => MrgPost w0 blk off n k8 pl rs d0 x z e w' := by
  have H := Lib.hid h
  have HL := Lib.hid hl
  have HR := Lib.hid hs
  have RR := Lib.hid R
  have HCF := Lib.hid hcf
  have zE : ∀ w, (Go.sizeOf 75).run Try.prog w = .ok k8 w := by rw [R.k8]; exact Try.sizeOf75
  have ZE := Lib.hid zE
  have aE := Try.isAgg75
  have mixed : Try.prog.follows .mixedOrders = true := by kernel_rfl
  clear h hl hs R hcf
  have hb1 : ((x : Int) + 1 - x == 1) = true := by simp; omega
  go_enter Try.func79, Try.ntmps79
  go_wp2
  go_loopg [10, 11] (z - (x + 1)) (fun g vi vj wr => ∃ i j : Nat, vi = .int .i64 i ∧ vj = .int .i64 j ∧ i ≤ j ∧ j ≤ z ∧ x + 1 ≤ i ∧ j - i ≤ g ∧ Hid (ST w0 blk off n k8 pl d0 wr ∧ Fnd (rs) d0 (d0 x) (x + 1) z i j))
  case atStart => exact ⟨x + 1, z, by go_num, rfl, by omega, by omega, by omega, by omega, H.out, Fnd.start (by omega)⟩
  case round =>
    obtain ⟨i, j, rfl, rfl, hij, hjz, hxi, hg, HS⟩ := hrel
    by_cases hlt : i < j
    · obtain ⟨h, hh⟩ : ∃ h : Nat, h = (i + j) / 2 := ⟨_, rfl⟩
      have hmid : ((i : Int) + j) / 2 = (h : Int) := by omega
      have hih : i ≤ h := by omega
      have hhj : h < j := by omega
      clear hh
      have hlow : d0 x < d0 h := HL.out x h (Nat.le_refl _) (by omega) (by omega) (by omega)
      have hix0 := rowAtK (P := Try.prog) Try.underlying72 ZE.out blk off n c h (by omega)
      have hix1 := rowAtK (P := Try.prog) Try.underlying72 ZE.out blk off n c x (by omega)
      have lj := HS.out.1.ld RR.out h (by omega)
      have lp := HS.out.1.ld RR.out x (by omega)
      have hcg := HS.out.1.cmp HCF.out h x (by omega) (by omega)
      cases hlv : decide (cmpI (rs (d0 x)) (rs (d0 h)) < 0) with
      | true =>
        have HF := Lib.hid (HS.out.2.up HR.out hih hhj ((lss_late hlow).2 (of_decide_eq_true hlv)))
        clear hlow
        go_wp2_with fail
        go_quiet_grown (first | (go_at_call 52; refine Calls.grown_of (hcg _ _)))
        go_wp2_with fail
        go_roundg (j - (h + 1))
        case measure => omega
        case rel => exact ⟨h + 1, j, by go_num, rfl, by omega, by omega, by omega, by omega, HS.out.1.grown _ _, HF.out⟩
      | false =>
        have hge : lss (rs) (d0 x) (d0 h) := by
          rcases lss_total (rs := rs) (show d0 x ≠ d0 h by omega) with h' | h'
          · exact h'
          · exact absurd ((lss_late hlow).1 h') (of_decide_eq_false hlv)
        have HF := Lib.hid (HS.out.2.down HR.out hih hhj hge)
        clear hlow hge
        go_wp2_with fail
        go_quiet_grown (first | (go_at_call 52; refine Calls.grown_of (hcg _ _)))
        go_wp2_with fail
        go_roundg (h - i)
        case measure => omega
        case rel => exact ⟨i, h, rfl, rfl, by omega, by omega, by omega, by omega, HS.out.1.grown _ _, HF.out⟩
    · obtain rfl : i = j := by omega
      have HN : Hid (Srt (rs) (rotd d0 x (x + 1) i) x z) := one_left HR.out hxi hjz HS.out.2.lt HS.out.2.gt
      have HSM := Lib.hid ((rotd_same d0 (show x ≤ x + 1 by omega) hxi).wider (Nat.le_refl _) hjz)
      have HS0 := Lib.hid HS.out.1
      clear HS hlt hij
      go_wp2
      go_loopg [13] i (fun g vk wr2 => ∃ k : Nat, vk = .int .i64 k ∧ x ≤ k ∧ k + 1 ≤ i ∧ i - k ≤ g ∧ Hid (ST w0 blk off n k8 pl (rotd d0 x (x + 1) (k + 1)) wr2))
      case atStart => exact ⟨x, rfl, Nat.le_refl _, by omega, by omega, by rw [rotd_triv _ (by omega) (by omega) (by omega)]; exact HS0⟩
      case round =>
        obtain ⟨k, rfl, hxk, hki, hg2, HK⟩ := hrel
        by_cases hlt : k + 1 < i
        · have hb : decide ((k : Int) < (i : Int) - 1) = true := by simp; omega
          have hix0 := rowAtK (P := Try.prog) Try.underlying72 ZE.out blk off n c k (by omega)
          have hix1 := rowAtK (P := Try.prog) Try.underlying72 ZE.out blk off n c (k + 1) (by omega)
          rw [Int.natCast_add, Int.natCast_one] at hix1
          have lx := HK.out.ld1 RR.out (k) (by omega)
          have ly := HK.out.ld1 RR.out (k + 1) (by omega)
          have s1 := HK.out.st1 RR.out (k) (by omega) (pl (rotd d0 x (x + 1) (k + 1) (k + 1)))
          have s2 := HK.out.st2 RR.out (k) (k + 1) (by omega) (by omega) (pl (rotd d0 x (x + 1) (k + 1) (k + 1))) (pl (rotd d0 x (x + 1) (k + 1) (k)))
          have SW := Lib.hid (HK.out.swap RR.out (k) (k + 1) (by omega) (by omega))
          have hl1 : (pl (rotd d0 x (x + 1) (k + 1) (k))).cells.length = k8 := by rw [RR.out.k8]; rfl
          have hl2 : (pl (rotd d0 x (x + 1) (k + 1) (k + 1))).cells.length = k8 := by rw [RR.out.k8]; rfl
          obtain ⟨cx, hcx⟩ : ∃ c, (pl (rotd d0 x (x + 1) (k + 1) (k))).cells = c := ⟨_, rfl⟩
          obtain ⟨cy, hcy⟩ : ∃ c, (pl (rotd d0 x (x + 1) (k + 1) (k + 1))).cells = c := ⟨_, rfl⟩
          rw [hcx] at lx s2 hl1 SW
          rw [hcy] at ly s1 s2 hl2 SW
          clear hcx hcy
          have HSS := Lib.hid (rot_up d0 x k hxk)
          have hw1 : IntKind.i64.wrap ((k : Int) + 1) = (k : Int) + 1 := by rw [IntKind.wrap_i64]; omega
          clear HK
          go_wp2_with fail
          go_big_region_o
          all_goals go_wp2
          go_roundg (i - (k + 1))
          case measure => omega
          case rel => exact ⟨k + 1, by go_num, by omega, by omega, by omega, by rw [← HSS.out]; exact SW⟩
        · obtain rfl : k + 1 = i := by omega
          have hb : decide ((k : Int) < ((k + 1 : Nat) : Int) - 1) = false := by simp
          go_wp2
          go_end0
          exact ⟨rfl, _, HK.out, HN.out, HSM.out⟩

set_option maxRecDepth 100000 in
set_option maxHeartbeats 4000000 in
theorem sym_one_right (w0 w : World) (blk off n k8 : Nat) (R : SR w0 blk off n k8) (pl : Int → Plc) (rs : Int → Int) (hcf : CfP pl rs n) (d0 : Nat → Int) (h : ST w0 blk off n k8 pl d0 w) (c : Nat)
    (x m : Nat) (hxm : x + 1 < m) (hzn : m + 1 ≤ n) (hn : n ≤ 100000) (hs : Srt (rs) d0 x m) (hl : Low d0 x m (m + 1)) :
    Calls Try.prog 79 #[.slice (some ⟨blk, off, none⟩) n c, .int .i64 x, .int .i64 m, .int .i64 (m + 1), .func (.func 52) #[] #[]] w
      fun e w' => MrgPost w0 blk off n k8 pl rs d0 x (m + 1) e w' := by
  have H := Lib.hid h
  have HL := Lib.hid hl
  have HR := Lib.hid hs
  have RR := Lib.hid R
  have HCF := Lib.hid hcf
  have zE : ∀ w, (Go.sizeOf 75).run Try.prog w = .ok k8 w := by rw [R.k8]; exact Try.sizeOf75
  have ZE := Lib.hid zE
  have aE := Try.isAgg75
  have mixed : Try.prog.follows .mixedOrders = true := by kernel_rfl
  clear h hl hs R hcf
  have hb1 : ((m : Int) - x == 1) = false := beq_eq_false_iff_ne.2 (by omega)
  have hb2 : ((m : Int) + 1 - m == 1) = true := by simp; omega
  go_enter Try.func79, Try.ntmps79
  go_wp2
  go_loopg [14, 15] (m - x) (fun g vi vj wr => ∃ i j : Nat, vi = .int .i64 i ∧ vj = .int .i64 j ∧ i ≤ j ∧ j ≤ m ∧ x ≤ i ∧ j - i ≤ g ∧ Hid (ST w0 blk off n k8 pl d0 wr ∧ Fnd (rs) d0 (d0 m) x m i j))
  case atStart => exact ⟨x, m, rfl, rfl, by omega, by omega, by omega, by omega, H.out, Fnd.start (by omega)⟩
  case round =>
    obtain ⟨i, j, rfl, rfl, hij, hjz, hxi, hg, HS⟩ := hrel
    by_cases hlt : i < j
    · obtain ⟨h, hh⟩ : ∃ h : Nat, h = (i + j) / 2 := ⟨_, rfl⟩
      have hmid : ((i : Int) + j) / 2 = (h : Int) := by omega
      have hih : i ≤ h := by omega
      have hhj : h < j := by omega
      clear hh
      have hlow : d0 h < d0 m := HL.out h m (by omega) (by omega) (by omega) (by omega)
      have hix0 := rowAtK (P := Try.prog) Try.underlying72 ZE.out blk off n c h (by omega)
      have hix1 := rowAtK (P := Try.prog) Try.underlying72 ZE.out blk off n c m (by omega)
      have lj := HS.out.1.ld RR.out h (by omega)
      have lp := HS.out.1.ld RR.out m (by omega)
      have hcg := HS.out.1.cmp HCF.out m h (by omega) (by omega)
      cases hlv : decide (cmpI (rs (d0 h)) (rs (d0 m)) < 0) with
      | true =>
        have HF := Lib.hid (HS.out.2.down HR.out hih hhj ((lss_late hlow).2 (of_decide_eq_true hlv)))
        clear hlow
        go_wp2_with fail
        go_quiet_grown (first | (go_at_call 52; refine Calls.grown_of (hcg _ _)))
        go_wp2_with fail
        go_roundg (h - i)
        case measure => omega
        case rel => exact ⟨i, h, rfl, rfl, by omega, by omega, by omega, by omega, HS.out.1.grown _ _, HF.out⟩
      | false =>
        have hge : lss (rs) (d0 h) (d0 m) := by
          rcases lss_total (rs := rs) (show d0 h ≠ d0 m by omega) with h' | h'
          · exact h'
          · exact absurd ((lss_late hlow).1 h') (of_decide_eq_false hlv)
        have HF := Lib.hid (HS.out.2.up HR.out hih hhj hge)
        clear hlow hge
        go_wp2_with fail
        go_quiet_grown (first | (go_at_call 52; refine Calls.grown_of (hcg _ _)))
        go_wp2_with fail
        go_roundg (j - (h + 1))
        case measure => omega
        case rel => exact ⟨h + 1, j, by go_num, rfl, by omega, by omega, by omega, by omega, HS.out.1.grown _ _, HF.out⟩
    · obtain rfl : i = j := by omega
      have HN : Hid (Srt (rs) (rotd d0 i m (m + 1)) x (m + 1)) := one_right HR.out hxi hjz HS.out.2.lt HS.out.2.gt
      have HSM := Lib.hid ((rotd_same d0 hjz (show m ≤ m + 1 by omega)).wider hxi (Nat.le_refl _))
      have HS0 := Lib.hid HS.out.1
      clear HS hlt hij
      go_wp2
      go_loopg [17] m (fun g vk wr2 => ∃ k : Nat, vk = .int .i64 k ∧ i ≤ k ∧ k ≤ m ∧ k ≤ g ∧ Hid (ST w0 blk off n k8 pl (rotd d0 k m (m + 1)) wr2))
      case atStart => exact ⟨m, rfl, hjz, Nat.le_refl _, Nat.le_refl _, by rw [rotd_triv _ (by omega) (by omega) (by omega)]; exact HS0⟩
      case round =>
        obtain ⟨k, rfl, hxk, hki, hg2, HK⟩ := hrel
        by_cases hlt : i < k
        · obtain ⟨k, rfl⟩ : ∃ q, k = q + 1 := ⟨k - 1, by omega⟩
          have hb : decide ((i : Int) < (k : Int) + 1) = true := by simp; omega
          have hix0 := rowAtK (P := Try.prog) Try.underlying72 ZE.out blk off n c k (by omega)
          have hix1 := rowAtK (P := Try.prog) Try.underlying72 ZE.out blk off n c (k + 1) (by omega)
          rw [Int.natCast_add, Int.natCast_one] at hix1
          have lx := HK.out.ld1 RR.out (k + 1) (by omega)
          have ly := HK.out.ld1 RR.out (k) (by omega)
          have s1 := HK.out.st1 RR.out (k + 1) (by omega) (pl (rotd d0 (k + 1) m (m + 1) (k)))
          have s2 := HK.out.st2 RR.out (k + 1) (k) (by omega) (by omega) (pl (rotd d0 (k + 1) m (m + 1) (k))) (pl (rotd d0 (k + 1) m (m + 1) (k + 1)))
          have SW := Lib.hid (HK.out.swap RR.out (k + 1) (k) (by omega) (by omega))
          have hl1 : (pl (rotd d0 (k + 1) m (m + 1) (k + 1))).cells.length = k8 := by rw [RR.out.k8]; rfl
          have hl2 : (pl (rotd d0 (k + 1) m (m + 1) (k))).cells.length = k8 := by rw [RR.out.k8]; rfl
          obtain ⟨cx, hcx⟩ : ∃ c, (pl (rotd d0 (k + 1) m (m + 1) (k + 1))).cells = c := ⟨_, rfl⟩
          obtain ⟨cy, hcy⟩ : ∃ c, (pl (rotd d0 (k + 1) m (m + 1) (k))).cells = c := ⟨_, rfl⟩
          rw [hcx] at lx s2 hl1 SW
          rw [hcy] at ly s1 s2 hl2 SW
          clear hcx hcy
          have HSS := Lib.hid (rot_down d0 k m hki)
          have hw1 : IntKind.i64.wrap ((k : Int) + 1) = (k : Int) + 1 := by rw [IntKind.wrap_i64]; omega
          have hwr : IntKind.i64.wrap ((k : Int) + 1 - 1) = (k : Int) := by rw [IntKind.wrap_i64]; omega
          have hwr' : IntKind.i64.wrap (k : Int) = (k : Int) := by rw [IntKind.wrap_i64]; omega
          clear HK
          go_wp2_with fail
          go_big_region_o
          all_goals go_wp2
          go_roundg k
          case measure => omega
          case rel => exact ⟨k, by go_num, by omega, by omega, by omega, by rw [← HSS.out]; exact SW⟩
        · obtain rfl : k = i := by omega
          go_wp2
          go_end0
          exact ⟨rfl, _, HK.out, HN.out, HSM.out⟩

end Go.Proofs.Ytfddhmhagijodaa
