/- Go's symmetric merge over the comparison of Split: the walk. -/
import Derived.Test.YtppjjmjdiccloaaSymW
namespace Go.Proofs.Ytppjjmjdiccloaa
open Go.RowKit

/-- What a merge of the sorted blocks from a to m and from m to b gives. -/
def MrgPost (w0 : World) (ob n ba bw bs : Nat) (abs sum : Int) (ws : List Int) (ao : Option Addr) (cap b o : Nat) (d0 : Nat → Int) (x z : Nat) (e : Ending) (w' : World) : Prop :=
  e = .returned (.tuple #[]) ∧ ∃ d, SS w0 w' ob n ba bw bs abs sum ws ao cap b o d ∧ Srt (rst abs sum ws) d x z ∧ Same x z d0 d

set_option maxRecDepth 100000 in
set_option maxHeartbeats 1000000 in
theorem sym_one_left (w0 w : World) (ob n ba bw bs : Nat) (abs sum : Int) (ws : List Int) (ao : Option Addr) (cap b o : Nat) (d0 : Nat → Int) (h : SS w0 w ob n ba bw bs abs sum ws ao cap b o d0) (c : Nat)
    (x z : Nat) (hxz : x + 1 < z) (hzn : z ≤ n) (hn : n ≤ 100000) (hs : Srt (rst abs sum ws) d0 (x + 1) z) (hl : Low d0 x (x + 1) z) :
    Calls Try.prog 40 #[.slice (some ⟨ob, 0, none⟩) n c, .int .i64 x, .int .i64 (x + 1), .int .i64 z, .func (.func 24) #[] #[.pointer (some ⟨ba, 0, none⟩), .pointer (some ⟨bw, 0, none⟩), .pointer (some ⟨bs, 0, none⟩)]] w
      fun e w' => MrgPost w0 ob n ba bw bs abs sum ws ao cap b o d0 x z e w' := by
  have H := Lib.hid h
  have HL := Lib.hid hl
  have HR := Lib.hid hs
  clear h hl hs
  have hb1 : ((x : Int) + 1 - x == 1) = true := by simp; omega
  go_enter Try.func40, Try.ntmps40
  go_wp2
  go_loopg [10, 11] (z - (x + 1)) (fun g vi vj wr => ∃ i j : Nat, vi = .int .i64 i ∧ vj = .int .i64 j ∧ i ≤ j ∧ j ≤ z ∧ x + 1 ≤ i ∧ j - i ≤ g ∧ Hid (SS w0 wr ob n ba bw bs abs sum ws ao cap b o d0 ∧ Fnd (rst abs sum ws) d0 (d0 x) (x + 1) z i j))
  case atStart => exact ⟨x + 1, z, by go_num, rfl, by omega, by omega, by omega, by omega, H.out, Fnd.start (by omega)⟩
  case round =>
    obtain ⟨i, j, rfl, rfl, hij, hjz, hxi, hg, HS⟩ := hrel
    by_cases hlt : i < j
    · obtain ⟨h, hh⟩ : ∃ h : Nat, h = (i + j) / 2 := ⟨_, rfl⟩
      have hmid : ((i : Int) + j) / 2 = (h : Int) := by omega
      have hih : i ≤ h := by omega
      have hhj : h < j := by omega
      clear hh
      have hlow : d0 x < d0 h := HL.out x h (Nat.le_refl _) (by omega) (by omega) (by omega)
      have hix0 := rowAt (P := Try.prog) Try.underlying22 Try.sizeOf3 ob n c h (by omega)
      have hix1 := rowAt (P := Try.prog) Try.underlying22 Try.sizeOf3 ob n c x (by omega)
      have hc0 := (HS.out.1.row h (by omega)).1
      have hc1 := (HS.out.1.row x (by omega)).1
      have HC := Lib.hid (fun q => HS.out.1.cmp h x (by omega) (by omega) q)
      cases hlv : decide (cmpI (rst abs sum ws (d0 x)) (rst abs sum ws (d0 h)) < 0) with
      | true =>
        have HF := Lib.hid (HS.out.2.up HR.out hih hhj ((lss_late hlow).2 (of_decide_eq_true hlv)))
        clear hlow
        go_wp2
        go_quiet ((go_at_call 24; exact Calls.quiet_of (HC.out _)))
        go_wp2_with fail
        go_roundg (j - (h + 1))
        case measure => omega
        case rel => exact ⟨h + 1, j, by go_num, rfl, by omega, by omega, by omega, by omega, HS.out.1.drewN _, HF.out⟩
      | false =>
        have hge : lss (rst abs sum ws) (d0 x) (d0 h) := by
          rcases lss_total (rs := rst abs sum ws) (show d0 x ≠ d0 h by omega) with h' | h'
          · exact h'
          · exact absurd ((lss_late hlow).1 h') (of_decide_eq_false hlv)
        have HF := Lib.hid (HS.out.2.down HR.out hih hhj hge)
        clear hlow hge
        go_wp2
        go_quiet ((go_at_call 24; exact Calls.quiet_of (HC.out _)))
        go_wp2_with fail
        go_roundg (h - i)
        case measure => omega
        case rel => exact ⟨i, h, rfl, rfl, by omega, by omega, by omega, by omega, HS.out.1.drewN _, HF.out⟩
    · obtain rfl : i = j := by omega
      have HN : Hid (Srt (rst abs sum ws) (rotd d0 x (x + 1) i) x z) := one_left HR.out hxi hjz HS.out.2.lt HS.out.2.gt
      have HSM := Lib.hid ((rotd_same d0 (show x ≤ x + 1 by omega) hxi).wider (Nat.le_refl _) hjz)
      have HS0 := Lib.hid HS.out.1
      clear HS hlt hij
      go_wp2
      go_loopg [13] i (fun g vk wr2 => ∃ k : Nat, vk = .int .i64 k ∧ x ≤ k ∧ k + 1 ≤ i ∧ i - k ≤ g ∧ Hid (SS w0 wr2 ob n ba bw bs abs sum ws ao cap b o (rotd d0 x (x + 1) (k + 1))))
      case atStart => exact ⟨x, rfl, Nat.le_refl _, by omega, by omega, by rw [rotd_triv _ (by omega) (by omega) (by omega)]; exact HS0⟩
      case round =>
        obtain ⟨k, rfl, hxk, hki, hg2, HK⟩ := hrel
        by_cases hlt : k + 1 < i
        · have hb : decide ((k : Int) < (i : Int) - 1) = true := by simp; omega
          have hix0 := rowAt (P := Try.prog) Try.underlying22 Try.sizeOf3 ob n c k (by omega)
          have hix1 := rowAt (P := Try.prog) Try.underlying22 Try.sizeOf3 ob n c (k + 1) (by omega)
          rw [Int.natCast_add, Int.natCast_one] at hix1
          have cq0 := (HK.out.row k (by omega)).1
          have cq1 := (HK.out.row (k + 1) (by omega)).1
          have fq0 := (HK.out.row k (by omega)).2
          have fq1 := (HK.out.row (k + 1) (by omega)).2
          have cs1 : (wr.setCell ⟨ob, k + 1, none⟩ (.int .i64 (rotd d0 x (x + 1) (k + 1) k))).cell? ⟨ob, k, none⟩ = some (.int .i64 (rotd d0 x (x + 1) (k + 1) k)) := by
            rw [World.cell?_setCell_other _ _ _ _ (by intro e; simp only [Addr.mk.injEq] at e; omega)]; exact cq0
          have cs2 : (wr.setCell ⟨ob, k, none⟩ (.int .i64 (rotd d0 x (x + 1) (k + 1) (k + 1)))).cell? ⟨ob, k + 1, none⟩ = some (.int .i64 (rotd d0 x (x + 1) (k + 1) (k + 1))) := by
            rw [World.cell?_setCell_other _ _ _ _ (by intro e; simp only [Addr.mk.injEq] at e; omega)]; exact cq1
          have SW := Lib.hid (HK.out.swap k (k + 1) (by omega) (by omega) 1)
          have HSS := Lib.hid (rot_up d0 x k hxk)
          have hw1 : IntKind.i64.wrap ((k : Int) + 1) = (k : Int) + 1 := by rw [IntKind.wrap_i64]; omega
          clear HK
          go_wp2
          go_region
          go_wp2
          go_roundg (i - (k + 1))
          case measure => omega
          case rel => exact ⟨k + 1, by go_num, by omega, by omega, by omega, by rw [← HSS.out]; exact SW⟩
        · obtain rfl : k + 1 = i := by omega
          have hb : decide ((k : Int) < ((k + 1 : Nat) : Int) - 1) = false := by simp
          go_wp2
          go_end0
          exact ⟨rfl, _, HK.out, HN.out, HSM.out⟩

set_option maxRecDepth 100000 in
set_option maxHeartbeats 1000000 in
theorem sym_one_right (w0 w : World) (ob n ba bw bs : Nat) (abs sum : Int) (ws : List Int) (ao : Option Addr) (cap b o : Nat) (d0 : Nat → Int) (h : SS w0 w ob n ba bw bs abs sum ws ao cap b o d0) (c : Nat)
    (x m : Nat) (hxm : x + 1 < m) (hzn : m + 1 ≤ n) (hn : n ≤ 100000) (hs : Srt (rst abs sum ws) d0 x m) (hl : Low d0 x m (m + 1)) :
    Calls Try.prog 40 #[.slice (some ⟨ob, 0, none⟩) n c, .int .i64 x, .int .i64 m, .int .i64 (m + 1), .func (.func 24) #[] #[.pointer (some ⟨ba, 0, none⟩), .pointer (some ⟨bw, 0, none⟩), .pointer (some ⟨bs, 0, none⟩)]] w
      fun e w' => MrgPost w0 ob n ba bw bs abs sum ws ao cap b o d0 x (m + 1) e w' := by
  have H := Lib.hid h
  have HL := Lib.hid hl
  have HR := Lib.hid hs
  clear h hl hs
  have hb1 : ((m : Int) - x == 1) = false := beq_eq_false_iff_ne.2 (by omega)
  have hb2 : ((m : Int) + 1 - m == 1) = true := by simp; omega
  go_enter Try.func40, Try.ntmps40
  go_wp2
  go_loopg [14, 15] (m - x) (fun g vi vj wr => ∃ i j : Nat, vi = .int .i64 i ∧ vj = .int .i64 j ∧ i ≤ j ∧ j ≤ m ∧ x ≤ i ∧ j - i ≤ g ∧ Hid (SS w0 wr ob n ba bw bs abs sum ws ao cap b o d0 ∧ Fnd (rst abs sum ws) d0 (d0 m) x m i j))
  case atStart => exact ⟨x, m, rfl, rfl, by omega, by omega, by omega, by omega, H.out, Fnd.start (by omega)⟩
  case round =>
    obtain ⟨i, j, rfl, rfl, hij, hjz, hxi, hg, HS⟩ := hrel
    by_cases hlt : i < j
    · obtain ⟨h, hh⟩ : ∃ h : Nat, h = (i + j) / 2 := ⟨_, rfl⟩
      have hmid : ((i : Int) + j) / 2 = (h : Int) := by omega
      have hih : i ≤ h := by omega
      have hhj : h < j := by omega
      clear hh
      have hlow : d0 h < d0 m := HL.out h m (by omega) (by omega) (by omega) (by omega)
      have hix0 := rowAt (P := Try.prog) Try.underlying22 Try.sizeOf3 ob n c h (by omega)
      have hix1 := rowAt (P := Try.prog) Try.underlying22 Try.sizeOf3 ob n c m (by omega)
      have hc0 := (HS.out.1.row h (by omega)).1
      have hc1 := (HS.out.1.row m (by omega)).1
      have HC := Lib.hid (fun q => HS.out.1.cmp m h (by omega) (by omega) q)
      cases hlv : decide (cmpI (rst abs sum ws (d0 h)) (rst abs sum ws (d0 m)) < 0) with
      | true =>
        have HF := Lib.hid (HS.out.2.down HR.out hih hhj ((lss_late hlow).2 (of_decide_eq_true hlv)))
        clear hlow
        go_wp2
        go_quiet ((go_at_call 24; exact Calls.quiet_of (HC.out _)))
        go_wp2_with fail
        go_roundg (h - i)
        case measure => omega
        case rel => exact ⟨i, h, rfl, rfl, by omega, by omega, by omega, by omega, HS.out.1.drewN _, HF.out⟩
      | false =>
        have hge : lss (rst abs sum ws) (d0 h) (d0 m) := by
          rcases lss_total (rs := rst abs sum ws) (show d0 h ≠ d0 m by omega) with h' | h'
          · exact h'
          · exact absurd ((lss_late hlow).1 h') (of_decide_eq_false hlv)
        have HF := Lib.hid (HS.out.2.up HR.out hih hhj hge)
        clear hlow hge
        go_wp2
        go_quiet ((go_at_call 24; exact Calls.quiet_of (HC.out _)))
        go_wp2_with fail
        go_roundg (j - (h + 1))
        case measure => omega
        case rel => exact ⟨h + 1, j, by go_num, rfl, by omega, by omega, by omega, by omega, HS.out.1.drewN _, HF.out⟩
    · obtain rfl : i = j := by omega
      have HN : Hid (Srt (rst abs sum ws) (rotd d0 i m (m + 1)) x (m + 1)) := one_right HR.out hxi hjz HS.out.2.lt HS.out.2.gt
      have HSM := Lib.hid ((rotd_same d0 hjz (show m ≤ m + 1 by omega)).wider hxi (Nat.le_refl _))
      have HS0 := Lib.hid HS.out.1
      clear HS hlt hij
      go_wp2
      go_loopg [17] m (fun g vk wr2 => ∃ k : Nat, vk = .int .i64 k ∧ i ≤ k ∧ k ≤ m ∧ k ≤ g ∧ Hid (SS w0 wr2 ob n ba bw bs abs sum ws ao cap b o (rotd d0 k m (m + 1))))
      case atStart => exact ⟨m, rfl, hjz, Nat.le_refl _, Nat.le_refl _, by rw [rotd_triv _ (by omega) (by omega) (by omega)]; exact HS0⟩
      case round =>
        obtain ⟨k, rfl, hxk, hki, hg2, HK⟩ := hrel
        by_cases hlt : i < k
        · obtain ⟨k, rfl⟩ : ∃ q, k = q + 1 := ⟨k - 1, by omega⟩
          have hb : decide ((i : Int) < (k : Int) + 1) = true := by simp; omega
          have hix0 := rowAt (P := Try.prog) Try.underlying22 Try.sizeOf3 ob n c k (by omega)
          have hix1 := rowAt (P := Try.prog) Try.underlying22 Try.sizeOf3 ob n c (k + 1) (by omega)
          rw [Int.natCast_add, Int.natCast_one] at hix1
          have cq0 := (HK.out.row k (by omega)).1
          have cq1 := (HK.out.row (k + 1) (by omega)).1
          have fq0 := (HK.out.row k (by omega)).2
          have fq1 := (HK.out.row (k + 1) (by omega)).2
          have cs1 : (wr.setCell ⟨ob, k + 1, none⟩ (.int .i64 (rotd d0 (k + 1) m (m + 1) k))).cell? ⟨ob, k, none⟩ = some (.int .i64 (rotd d0 (k + 1) m (m + 1) k)) := by
            rw [World.cell?_setCell_other _ _ _ _ (by intro e; simp only [Addr.mk.injEq] at e; omega)]; exact cq0
          have cs2 : (wr.setCell ⟨ob, k, none⟩ (.int .i64 (rotd d0 (k + 1) m (m + 1) (k + 1)))).cell? ⟨ob, k + 1, none⟩ = some (.int .i64 (rotd d0 (k + 1) m (m + 1) (k + 1))) := by
            rw [World.cell?_setCell_other _ _ _ _ (by intro e; simp only [Addr.mk.injEq] at e; omega)]; exact cq1
          have SW := Lib.hid (HK.out.swap (k + 1) k (by omega) (by omega) 1)
          have HSS := Lib.hid (rot_down d0 k m hki)
          have hw1 : IntKind.i64.wrap ((k : Int) + 1) = (k : Int) + 1 := by rw [IntKind.wrap_i64]; omega
          have hwr : IntKind.i64.wrap ((k : Int) + 1 - 1) = (k : Int) := by rw [IntKind.wrap_i64]; omega
          have hwr' : IntKind.i64.wrap (k : Int) = (k : Int) := by rw [IntKind.wrap_i64]; omega
          clear HK
          go_wp2
          go_region
          go_wp2
          go_roundg k
          case measure => omega
          case rel => exact ⟨k, by go_num, by omega, by omega, by omega, by rw [← HSS.out]; exact SW⟩
        · obtain rfl : k = i := by omega
          go_wp2
          go_end0
          exact ⟨rfl, _, HK.out, HN.out, HSM.out⟩

end Go.Proofs.Ytppjjmjdiccloaa
