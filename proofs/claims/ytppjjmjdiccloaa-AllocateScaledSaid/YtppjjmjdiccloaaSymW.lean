/- Go's swapRange, rotate and symmetric merge over the comparison of Split: the walks. -/
import Derived.Test.YtppjjmjdiccloaaOrdW
import Derived.Test.YtppjjmjdiccloaaSymP
namespace Go.Proofs.Ytppjjmjdiccloaa
open Go.RowKit

set_option maxHeartbeats 1000000 in
theorem swapr_any (w0 w : World) (ob n ba bw bs : Nat) (abs sum : Int) (ws : List Int) (ao : Option Addr) (cap b o : Nat) (d0 : Nat → Int) (h : SS w0 w ob n ba bw bs abs sum ws ao cap b o d0) (c : Nat)
    (x y t : Nat) (hxy : x + t ≤ y) (hyn : y + t ≤ n) (hn : n ≤ 100000) :
    Calls Try.prog 44 #[.slice (some ⟨ob, 0, none⟩) n c, .int .i64 x, .int .i64 y, .int .i64 t, .func (.func 24) #[] #[.pointer (some ⟨ba, 0, none⟩), .pointer (some ⟨bw, 0, none⟩), .pointer (some ⟨bs, 0, none⟩)]] w
      fun e w' => e = .returned (.tuple #[]) ∧ SS w0 w' ob n ba bw bs abs sum ws ao cap b o (swr d0 x y t) := by
  have H := Lib.hid h
  clear h
  go_enter Try.func44, Try.ntmps44
  go_wp2
  go_loopg [10] t (fun g vi wr => ∃ k : Nat, vi = .int .i64 k ∧ k ≤ t ∧ t - k ≤ g ∧ Hid (SS w0 wr ob n ba bw bs abs sum ws ao cap b o (swr d0 x y k)))
  case atStart => exact ⟨0, rfl, Nat.zero_le _, by omega, by rw [swr_zero]; exact H⟩
  case round =>
    obtain ⟨k, rfl, hk, hg, HS⟩ := hrel
    by_cases hlt : k < t
    · have hi : x + k < n := by omega
      have hj : y + k < n := by omega
      have hix0 := rowAt (P := Try.prog) Try.underlying22 Try.sizeOf3 ob n c (x + k) hi
      have hix1 := rowAt (P := Try.prog) Try.underlying22 Try.sizeOf3 ob n c (y + k) hj
      rw [Int.natCast_add] at hix0 hix1
      have cq0 := (HS.out.row (x + k) hi).1
      have cq1 := (HS.out.row (y + k) hj).1
      have fq0 := (HS.out.row (x + k) hi).2
      have fq1 := (HS.out.row (y + k) hj).2
      have cs1 : (wr.setCell ⟨ob, y + k, none⟩ (.int .i64 (swr d0 x y k (x + k)))).cell? ⟨ob, x + k, none⟩ = some (.int .i64 (swr d0 x y k (x + k))) := by
        rw [World.cell?_setCell_other _ _ _ _ (by intro e; simp only [Addr.mk.injEq] at e; omega)]; exact cq0
      have cs2 : (wr.setCell ⟨ob, x + k, none⟩ (.int .i64 (swr d0 x y k (y + k)))).cell? ⟨ob, y + k, none⟩ = some (.int .i64 (swr d0 x y k (y + k))) := by
        rw [World.cell?_setCell_other _ _ _ _ (by intro e; simp only [Addr.mk.injEq] at e; omega)]; exact cq1
      have SW := Lib.hid (HS.out.swap (x + k) (y + k) hi hj 1)
      have hw1 : IntKind.i64.wrap ((x : Int) + k) = (x : Int) + k := by rw [IntKind.wrap_i64]; omega
      have hw2 : IntKind.i64.wrap ((y : Int) + k) = (y : Int) + k := by rw [IntKind.wrap_i64]; omega
      have HSS := Lib.hid (swr_succ d0 x y k (by omega))
      clear HS
      go_wp2
      go_region
      go_wp2
      go_roundg (t - (k + 1))
      case measure => omega
      case rel => exact ⟨k + 1, by go_num, by omega, by omega, by rw [← HSS.out]; exact SW⟩
    · obtain rfl : k = t := by omega
      go_wp2
      go_end0
      exact ⟨rfl, HS.out⟩

set_option maxHeartbeats 1000000 in
theorem rotate_any (w0 w : World) (ob n ba bw bs : Nat) (abs sum : Int) (ws : List Int) (ao : Option Addr) (cap b o : Nat) (d0 : Nat → Int) (h : SS w0 w ob n ba bw bs abs sum ws ao cap b o d0) (c : Nat)
    (s m e : Nat) (hsm : s < m) (hme : m < e) (hen : e ≤ n) (hn : n ≤ 100000) :
    Calls Try.prog 43 #[.slice (some ⟨ob, 0, none⟩) n c, .int .i64 s, .int .i64 m, .int .i64 e, .func (.func 24) #[] #[.pointer (some ⟨ba, 0, none⟩), .pointer (some ⟨bw, 0, none⟩), .pointer (some ⟨bs, 0, none⟩)]] w
      fun e' w' => e' = .returned (.tuple #[]) ∧ SS w0 w' ob n ba bw bs abs sum ws ao cap b o (rotd d0 s m e) := by
  have H := Lib.hid h
  clear h
  go_enter Try.func43, Try.ntmps43
  go_wp2
  go_loopg [10, 11] (e - s) (fun g vi vj wr => ∃ (i j : Nat) (d : Nat → Int), vi = .int .i64 i ∧ vj = .int .i64 j ∧ 1 ≤ i ∧ 1 ≤ j ∧ i ≤ m - s ∧ j ≤ e - m ∧ i + j ≤ g ∧ Hid (SS w0 wr ob n ba bw bs abs sum ws ao cap b o d ∧ rotd d (m - i) m (m + j) = rotd d0 s m e))
  case atStart =>
    refine ⟨m - s, e - m, d0, by rw [Int.natCast_sub (by omega)], by rw [Int.natCast_sub (by omega)], by omega, by omega, Nat.le_refl _, Nat.le_refl _, by omega, H.out, ?_⟩
    rw [show m - (m - s) = s by omega, show m + (e - m) = e by omega]
  case round =>
    obtain ⟨i, j, d, rfl, rfl, hi1, hj1, him, hjm, hg, HS⟩ := hrel
    rcases Nat.lt_trichotomy i j with hlt | heq | hgt
    · have hb1 : ((i : Int) != (j : Int)) = true := by simp; omega
      have hb2 : decide ((j : Int) < (i : Int)) = false := by simp; omega
      have HC : Hid (Calls Try.prog 44 #[.slice (some ⟨ob, 0, none⟩) n c, .int .i64 ((m : Int) - i), .int .i64 ((m : Int) + j - i), .int .i64 i, .func (.func 24) #[] #[.pointer (some ⟨ba, 0, none⟩), .pointer (some ⟨bw, 0, none⟩), .pointer (some ⟨bs, 0, none⟩)]] wr
        fun e w' => e = .returned (.tuple #[]) ∧ SS w0 w' ob n ba bw bs abs sum ws ao cap b o (swr d (m - i) (m + j - i) i)) := by
        have := swapr_any w0 wr ob n ba bw bs abs sum ws ao cap b o d HS.out.1 c (m - i) (m + j - i) i (by omega) (by omega) hn
        rwa [Int.natCast_sub (by omega), Int.natCast_sub (by omega), Int.natCast_add] at this
      have HR := Lib.hid (rot_right d m i j (by omega) (by omega))
      go_wp2_with (go_at_call 44; refine HC.out.mono ?_; rintro e' w1 ⟨rfl, hs1⟩)
      have HS1 := Lib.hid hs1
      clear hs1 HC
      go_roundg j
      case measure => omega
      case rel => exact ⟨i, j - i, _, rfl, by rw [Int.natCast_sub (by omega)], by omega, by omega, by omega, by omega, by omega, HS1.out, by rw [HR.out]; exact HS.out.2⟩
    · subst heq
      have hb1 : ((i : Int) != (i : Int)) = false := by simp
      have HC : Hid (Calls Try.prog 44 #[.slice (some ⟨ob, 0, none⟩) n c, .int .i64 ((m : Int) - i), .int .i64 m, .int .i64 i, .func (.func 24) #[] #[.pointer (some ⟨ba, 0, none⟩), .pointer (some ⟨bw, 0, none⟩), .pointer (some ⟨bs, 0, none⟩)]] wr
        fun e w' => e = .returned (.tuple #[]) ∧ SS w0 w' ob n ba bw bs abs sum ws ao cap b o (swr d (m - i) m i)) := by
        have := swapr_any w0 wr ob n ba bw bs abs sum ws ao cap b o d HS.out.1 c (m - i) m i (by omega) (by omega) hn
        rwa [Int.natCast_sub (by omega)] at this
      have HR := Lib.hid (rot_eq d m i (by omega))
      go_wp2_with (go_at_call 44; refine HC.out.mono ?_; rintro e' w1 ⟨rfl, hs1⟩)
      go_end0
      refine ⟨rfl, ?_⟩
      rw [HR.out, HS.out.2] at hs1
      exact hs1
    · have hb1 : ((i : Int) != (j : Int)) = true := by simp; omega
      have hb2 : decide ((j : Int) < (i : Int)) = true := by simp; omega
      have HC : Hid (Calls Try.prog 44 #[.slice (some ⟨ob, 0, none⟩) n c, .int .i64 ((m : Int) - i), .int .i64 m, .int .i64 j, .func (.func 24) #[] #[.pointer (some ⟨ba, 0, none⟩), .pointer (some ⟨bw, 0, none⟩), .pointer (some ⟨bs, 0, none⟩)]] wr
        fun e w' => e = .returned (.tuple #[]) ∧ SS w0 w' ob n ba bw bs abs sum ws ao cap b o (swr d (m - i) m j)) := by
        have := swapr_any w0 wr ob n ba bw bs abs sum ws ao cap b o d HS.out.1 c (m - i) m j (by omega) (by omega) hn
        rwa [Int.natCast_sub (by omega)] at this
      have HR := Lib.hid (rot_left d m i j (by omega) (by omega))
      go_wp2_with (go_at_call 44; refine HC.out.mono ?_; rintro e' w1 ⟨rfl, hs1⟩)
      have HS1 := Lib.hid hs1
      clear hs1 HC
      go_roundg i
      case measure => omega
      case rel => exact ⟨i - j, j, _, by rw [Int.natCast_sub (by omega)], rfl, by omega, by omega, by omega, by omega, by omega, HS1.out, by rw [HR.out]; exact HS.out.2⟩
end Go.Proofs.Ytppjjmjdiccloaa
