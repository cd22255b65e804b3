/- Go's stable sort over the comparison of Split: the walk. -/
import Derived.Test.YtppjjmjdiccloaaSymG
import Derived.Test.YtppjjmjdiccloaaOrdS
namespace Go.Proofs.Ytppjjmjdiccloaa
open Go.RowKit

set_option maxHeartbeats 1000000 in
theorem stable_any (w0 w : World) (ob n ba bw bs : Nat) (abs sum : Int) (ws : List Int) (ao : Option Addr) (cap b o : Nat) (d0 : Nat → Int) (h : SS w0 w ob n ba bw bs abs sum ws ao cap b o d0) (c : Nat) (hn : n ≤ 100000) (hid : ∀ i, i < n → d0 i = i) :
    Calls Try.prog 33 #[.slice (some ⟨ob, 0, none⟩) n c, .int .i64 n, .func (.func 24) #[] #[.pointer (some ⟨ba, 0, none⟩), .pointer (some ⟨bw, 0, none⟩), .pointer (some ⟨bs, 0, none⟩)]] w
      fun e w' => SortPost w0 ob n ba bw bs abs sum ws ao cap b o d0 e w' := by
  have H := Lib.hid h
  have HI := Lib.hid hid
  clear h hid
  go_enter Try.func33, Try.ntmps33
  go_wp2
  go_loopg [7, 8] n (fun g va vb wr => ∃ (a : Nat) (d : Nat → Int), va = .int .i64 a ∧ vb = .int .i64 ((a : Int) + 20) ∧ a ≤ n ∧ n - a ≤ g ∧ Hid (20 ∣ a) ∧ Hid (SS w0 wr ob n ba bw bs abs sum ws ao cap b o d ∧ Made (rst abs sum ws) d n a ∧ Same 0 n d0 d))
  case atStart => exact ⟨0, d0, rfl, by go_num, Nat.zero_le _, Nat.le_refl _, Nat.dvd_zero _, H.out, Made.start HI.out, Same.refl _ _ _⟩
  case round =>
    obtain ⟨a, d, rfl, rfl, han, hg, HD, HS⟩ := hrel
    by_cases hlt : a + 20 ≤ n
    · have HC : Hid (Calls Try.prog 39 #[.slice (some ⟨ob, 0, none⟩) n c, .int .i64 a, .int .i64 ((a : Int) + 20), .func (.func 24) #[] #[.pointer (some ⟨ba, 0, none⟩), .pointer (some ⟨bw, 0, none⟩), .pointer (some ⟨bs, 0, none⟩)]] wr
        fun e w' => e = .returned (.tuple #[]) ∧ ∃ d', SS w0 w' ob n ba bw bs abs sum ws ao cap b o d' ∧ Srt (rst abs sum ws) d' a (a + 20) ∧ Same a (a + 20) d d') := by
        have := insertion_any w0 wr ob n ba bw bs abs sum ws ao cap b o d HS.out.1 c a (a + 20) (by omega) hlt (by omega) (fun i h1 h2 => HS.out.2.1.2 i h1 (by omega))
        rwa [Int.natCast_add] at this
      go_wp2_with (go_at_call 39; refine HC.out.mono ?_; rintro e w1 ⟨rfl, d', hs1, hs2, hs3⟩)
      have HS1 : Hid (SS w0 w1 ob n ba bw bs abs sum ws ao cap b o d' ∧ Made (rst abs sum ws) d' n (a + 20) ∧ Same 0 n d0 d') := ⟨hs1, HS.out.2.1.next HD.out (by omega) hs3 hs2, HS.out.2.2.trans (hs3.wider (Nat.zero_le _) hlt)⟩
      clear hs1 hs2 hs3 HC HS
      go_roundg (n - (a + 20))
      case measure => omega
      case rel => exact ⟨a + 20, d', by go_num, by go_num, hlt, by omega, Nat.dvd_add HD.out (Nat.dvd_refl _), HS1⟩
    · have HC := Lib.hid (insertion_any w0 wr ob n ba bw bs abs sum ws ao cap b o d HS.out.1 c a n han (Nat.le_refl _) (by omega) (fun i h1 h2 => HS.out.2.1.2 i h1 h2))
      go_wp2_with (go_at_call 39; refine HC.out.mono ?_; rintro e w1 ⟨rfl, d', hs1, hs2, hs3⟩)
      have HS1 : Hid (SS w0 w1 ob n ba bw bs abs sum ws ao cap b o d' ∧ Mrg (rst abs sum ws) d' n 20 0 ∧ Same 0 n d0 d') := ⟨hs1, (HS.out.2.1.next HD.out (by omega) hs3 hs2).mrg (by omega), HS.out.2.2.trans (hs3.wider (Nat.zero_le _) (Nat.le_refl _))⟩
      clear hs1 hs2 hs3 HC HS HD H HI
      go_loopg [6] n (fun g vs wr => ∃ (s : Nat) (d : Nat → Int), vs = .int .i64 s ∧ 1 ≤ s ∧ s ≤ 200000 ∧ n - s ≤ g ∧ Hid (SS w0 wr ob n ba bw bs abs sum ws ao cap b o d ∧ Mrg (rst abs sum ws) d n s 0 ∧ Same 0 n d0 d))
      case atStart => exact ⟨20, d', rfl, by omega, by omega, by omega, HS1⟩
      case round =>
        clear HS1
        obtain ⟨s, d, rfl, hs1, hs2, hg2, HS⟩ := hrel
        by_cases hsn : s < n
        · go_wp2
          go_loopg [7, 8] n (fun g va vb wr => ∃ (a : Nat) (d : Nat → Int), va = .int .i64 a ∧ vb = .int .i64 ((a : Int) + 2 * s) ∧ a ≤ n ∧ n - a ≤ g ∧ Hid (2 * s ∣ a) ∧ Hid (SS w0 wr ob n ba bw bs abs sum ws ao cap b o d ∧ Mrg (rst abs sum ws) d n s a ∧ Same 0 n d0 d))
          case atStart => exact ⟨0, d, rfl, by go_num, Nat.zero_le _, Nat.le_refl _, Nat.dvd_zero _, HS⟩
          case round =>
            clear HS
            obtain ⟨a, d, rfl, rfl, han, hg3, HD, HS⟩ := hrel
            by_cases hlt : a + 2 * s ≤ n
            · have HW := Lib.hid (HS.out.2.1.low HD.out (by omega))
              have HQ : Hid (min (a + 2 * s) n = a + 2 * s) := by show _ = _; omega
              have HC : Hid (Calls Try.prog 40 #[.slice (some ⟨ob, 0, none⟩) n c, .int .i64 a, .int .i64 ((a : Int) + s), .int .i64 ((a : Int) + 2 * s), .func (.func 24) #[] #[.pointer (some ⟨ba, 0, none⟩), .pointer (some ⟨bw, 0, none⟩), .pointer (some ⟨bs, 0, none⟩)]] wr
                fun e w' => MrgPost w0 ob n ba bw bs abs sum ws ao cap b o d a (a + 2 * s) e w') := by
                have hq := HW.out
                rw [HQ.out] at hq
                have := sym_any w0 ob n ba bw bs abs sum ws ao cap b o c hn _ wr d a (a + s) (a + 2 * s) (Nat.le_refl _) HS.out.1 (by omega) (by omega) hlt hq.1 hq.2.1 hq.2.2
                rwa [Int.natCast_add, Int.natCast_add, Int.natCast_mul] at this
              go_wp2_with (go_at_call 40; refine HC.out.mono ?_; rintro e w1 ⟨rfl, d2, hm1, hm2, hm3⟩)
              have HS1 : Hid (SS w0 w1 ob n ba bw bs abs sum ws ao cap b o d2 ∧ Mrg (rst abs sum ws) d2 n s (a + 2 * s) ∧ Same 0 n d0 d2) := ⟨hm1, HS.out.2.1.next HD.out (by omega) (by rw [HQ.out]; exact hm3) (by rw [HQ.out]; exact hm2), HS.out.2.2.trans (hm3.wider (Nat.zero_le _) hlt)⟩
              clear hm1 hm2 hm3 HC HS HW HQ
              go_roundg (n - (a + 2 * s))
              case measure => omega
              case rel => exact ⟨a + 2 * s, d2, by go_num, by go_num, hlt, by omega, Nat.dvd_add HD.out (Nat.dvd_refl _), HS1⟩
            · by_cases hm : a + s < n
              · have HW := Lib.hid (HS.out.2.1.low HD.out hm)
                have HQ : Hid (min (a + 2 * s) n = n) := by show _ = _; omega
                have HC : Hid (Calls Try.prog 40 #[.slice (some ⟨ob, 0, none⟩) n c, .int .i64 a, .int .i64 ((a : Int) + s), .int .i64 n, .func (.func 24) #[] #[.pointer (some ⟨ba, 0, none⟩), .pointer (some ⟨bw, 0, none⟩), .pointer (some ⟨bs, 0, none⟩)]] wr
                  fun e w' => MrgPost w0 ob n ba bw bs abs sum ws ao cap b o d a n e w') := by
                  have hq := HW.out
                  rw [HQ.out] at hq
                  have := sym_any w0 ob n ba bw bs abs sum ws ao cap b o c hn _ wr d a (a + s) n (Nat.le_refl _) HS.out.1 (by omega) hm (Nat.le_refl _) hq.1 hq.2.1 hq.2.2
                  rwa [Int.natCast_add] at this
                go_wp2_with (go_at_call 40; refine HC.out.mono ?_; rintro e w1 ⟨rfl, d2, hm1, hm2, hm3⟩)
                have HS1 : Hid (SS w0 w1 ob n ba bw bs abs sum ws ao cap b o d2 ∧ Mrg (rst abs sum ws) d2 n (2 * s) 0 ∧ Same 0 n d0 d2) := ⟨hm1, (HS.out.2.1.next HD.out hm (by rw [HQ.out]; exact hm3) (by rw [HQ.out]; exact hm2)).turn (by omega), HS.out.2.2.trans (hm3.wider (Nat.zero_le _) (Nat.le_refl _))⟩
                clear hm1 hm2 hm3 HC HS HW HQ
                go_roundg (n - 2 * s)
                case measure => omega
                case rel => exact ⟨2 * s, d2, by go_num, by omega, by omega, by omega, HS1⟩
              · have HS1 : Hid (SS w0 wr ob n ba bw bs abs sum ws ao cap b o d ∧ Mrg (rst abs sum ws) d n (2 * s) 0 ∧ Same 0 n d0 d) := ⟨HS.out.1, (HS.out.2.1.last HD.out (by omega)).turn (by omega), HS.out.2.2⟩
                clear HS
                go_wp2_with fail
                go_roundg (n - 2 * s)
                case measure => omega
                case rel => exact ⟨2 * s, d, by go_num, by omega, by omega, by omega, HS1⟩
        · go_wp2
          go_end0
          exact ⟨rfl, d, HS.out.1, HS.out.2.1.done (by omega), HS.out.2.2⟩

theorem sort_any (n : Nat) (hn : n ≤ 100000) : SortSaid n := by
  intro w0 w ob ba bw bs abs sum ws ao cap b o d0 c h hid
  have HC := Lib.hid (stable_any w0 w ob n ba bw bs abs sum ws ao cap b o d0 h c hn hid)
  clear h hid
  go_enter Try.func23, Try.ntmps23
  go_wp2_with (go_at_call 33; refine HC.out.mono ?_; rintro e w1 ⟨rfl, hd⟩)
  go_end0
  exact ⟨rfl, hd⟩
end Go.Proofs.Ytppjjmjdiccloaa
