/- Go's insertion sort and stable sort over the comparison of places: the walks. -/
import Derived.Test.YtfddhmhagijodaaStG
namespace Go.Proofs.Ytfddhmhagijodaa
open Go.RowKit Go.Shelf Go.Lib Go.Sort
set_option linter.unusedSimpArgs false
set_option linter.unusedVariables false

/-- What the sort of n places gives. -/
def SortPost (w0 : World) (blk off n k8 : Nat) (pl : Int → Plc) (rs : Int → Int) (d0 : Nat → Int) (e : Ending) (w' : World) : Prop :=
  e = .returned (.tuple #[]) ∧ ∃ d, ST w0 blk off n k8 pl d w' ∧ Srt rs d 0 n ∧ Same 0 n d0 d
set_option maxRecDepth 100000 in
set_option maxHeartbeats 4000000 in
theorem insertion_any (w0 w : World) (blk off n k8 : Nat) (R : SR w0 blk off n k8) (pl : Int → Plc) (rs : Int → Int) (hcf : CfP pl rs n) (d0 : Nat → Int) (h : ST w0 blk off n k8 pl d0 w) (c : Nat)
    (lo hi : Nat) (hlh : lo ≤ hi) (hhn : hi ≤ n) (hn : n ≤ 100000) (hid : ∀ i, lo ≤ i → i < hi → d0 i = i) :
    Calls Try.prog 78 #[.slice (some ⟨blk, off, none⟩) n c, .int .i64 lo, .int .i64 hi, .func (.func 52) #[] #[]] w
      fun e w' => e = .returned (.tuple #[]) ∧ ∃ d, ST w0 blk off n k8 pl d w' ∧ Srt (rs) d lo hi ∧ Same lo hi d0 d := by
  have H := Lib.hid h
  have HI := Lib.hid hid
  have RR := Lib.hid R
  have HCF := Lib.hid hcf
  have zE : ∀ w, (Go.sizeOf 75).run Try.prog w = .ok k8 w := by rw [R.k8]; exact Try.sizeOf75
  have ZE := Lib.hid zE
  have aE := Try.isAgg75
  have mixed : Try.prog.follows .mixedOrders = true := by kernel_rfl
  clear h hid R hcf
  go_enter Try.func78, Try.ntmps78
  go_wp2
  go_loopg [8] (hi - lo) (fun g vi wr => ∃ (i : Nat) (d : Nat → Int), vi = .int .i64 i ∧ lo < i ∧ hi - i ≤ g ∧ Hid (ST w0 blk off n k8 pl d wr ∧ Out (rs) d0 d lo hi i))
  case atStart => exact ⟨lo + 1, d0, by go_num, by omega, by omega, ⟨H.out, Out.start HI.out⟩⟩
  case round =>
    obtain ⟨i, d, rfl, hli, hg, HS⟩ := hrel
    by_cases hlt : i < hi
    · go_wp2
      go_loopg [9] i (fun g2 vj wr2 => ∃ (j : Nat) (dj : Nat → Int), vj = .int .i64 j ∧ lo ≤ j ∧ j ≤ i ∧ j ≤ g2 ∧ Hid (ST w0 blk off n k8 pl dj wr2 ∧ Inn (rs) d0 dj lo hi i j))
      case atStart => exact ⟨i, d, rfl, by omega, Nat.le_refl _, Nat.le_refl _, ⟨HS.out.1, HS.out.2.inner hlt⟩⟩
      case round =>
        clear HS
        obtain ⟨j, dj, rfl, haj, hji, hg2, HJ⟩ := hrel
        by_cases hja : lo < j
        · obtain ⟨jp, rfl⟩ : ∃ q, j = q + 1 := ⟨j - 1, by omega⟩
          have hin : jp + 1 < n := by omega
          have lj := HJ.out.1.ld RR.out (jp + 1) hin
          have lp := HJ.out.1.ld RR.out jp (by omega)
          have hcg := HJ.out.1.cmp HCF.out (jp + 1) jp hin (by omega)
          have hjad : decide ((lo : Int) < (jp : Int) + 1) = true := by simp; omega
          have hix0 := rowAtK (P := Try.prog) Try.underlying72 ZE.out blk off n c jp (by omega)
          have hix1 := rowAtK (P := Try.prog) Try.underlying72 ZE.out blk off n c (jp + 1) hin
          rw [Int.natCast_add, Int.natCast_one] at hix1
          have hwr : IntKind.i64.wrap ((jp : Int) + 1 - 1) = (jp : Int) := by rw [IntKind.wrap_i64]; omega
          have hwr' : IntKind.i64.wrap (jp : Int) = (jp : Int) := by rw [IntKind.wrap_i64]; omega
          cases hlv : decide (cmpI (rs (dj jp)) (rs (dj (jp + 1))) < 0) with
          | true =>
            have hc : cmpI (rs (dj jp)) (rs (dj (jp + 1))) < 0 := of_decide_eq_true hlv
            have HN := Lib.hid hc
            clear hc
            go_wp2_with fail
            go_quiet_grown (first | (go_at_call 52; refine Calls.grown_of (hcg _ _)))
            go_wp2_with fail
            have SQ := Lib.hid (HJ.out.1.grown nq osq)
            obtain ⟨wq, hwq⟩ : ∃ wq, grow (wr.drewN nq) osq = wq := ⟨_, rfl⟩
            rw [hwq] at SQ ⊢
            clear hwq lj lp hcg
            have lx := SQ.out.ld1 RR.out (jp + 1) (by omega)
            have ly := SQ.out.ld1 RR.out (jp) (by omega)
            have s1 := SQ.out.st1 RR.out (jp + 1) (by omega) (pl (dj (jp)))
            have s2 := SQ.out.st2 RR.out (jp + 1) (jp) (by omega) (by omega) (pl (dj (jp))) (pl (dj (jp + 1)))
            have SW := Lib.hid (SQ.out.swap RR.out (jp + 1) (jp) (by omega) (by omega))
            have hl1 : (pl (dj (jp + 1))).cells.length = k8 := by rw [RR.out.k8]; rfl
            have hl2 : (pl (dj (jp))).cells.length = k8 := by rw [RR.out.k8]; rfl
            obtain ⟨cx, hcx⟩ : ∃ c, (pl (dj (jp + 1))).cells = c := ⟨_, rfl⟩
            obtain ⟨cy, hcy⟩ : ∃ c, (pl (dj (jp))).cells = c := ⟨_, rfl⟩
            rw [hcx] at lx s2 hl1 SW
            rw [hcy] at ly s1 s2 hl2 SW
            clear hcx hcy
            have IW := Lib.hid (HJ.out.2.step (by omega) hji hlt HN.out)
            clear SQ HJ
            go_big_region_o
            all_goals go_wp2
            go_roundg jp
            case measure => omega
            case rel => exact ⟨jp, swf dj (jp + 1) jp, by go_num, by omega, by omega, by omega, ⟨SW.out, IW.out⟩⟩
          | false =>
            have hc : ¬ cmpI (rs (dj jp)) (rs (dj (jp + 1))) < 0 := of_decide_eq_false hlv
            have HO : Hid (Out (rs) d0 dj lo hi (i + 1)) := HJ.out.2.done (by omega) hji (.inr hc)
            clear hc
            go_wp2_with fail
            go_quiet_grown (first | (go_at_call 52; refine Calls.grown_of (hcg _ _)))
            go_wp2_with fail
            go_roundg (hi - (i + 1))
            case measure => omega
            case rel => exact ⟨i + 1, dj, by go_num, by omega, by omega, ⟨HJ.out.1.grown _ _, HO.out⟩⟩
        · have HO : Hid (Out (rs) d0 dj lo hi (i + 1)) := HJ.out.2.done (by omega) hji (.inl (by omega))
          have hjad : decide ((lo : Int) < (j : Int)) = false := by simp; omega
          go_wp2
          go_quiet (fail)
          go_wp2_with fail
          go_roundg (hi - (i + 1))
          case measure => omega
          case rel => exact ⟨i + 1, dj, by go_num, by omega, by omega, ⟨HJ.out.1.drewN _, HO.out⟩⟩
    · go_wp2
      go_end0
      obtain ⟨h1, h2⟩ := HS.out
      exact ⟨rfl, d, h1, fun k l k1 k2 k3 => h2.srt k l k1 k2 (by omega), h2.same⟩
set_option maxRecDepth 100000 in
set_option maxHeartbeats 4000000 in
theorem stable_any (w0 w : World) (blk off n k8 : Nat) (R : SR w0 blk off n k8) (pl : Int → Plc) (rs : Int → Int) (hcf : CfP pl rs n) (d0 : Nat → Int) (h : ST w0 blk off n k8 pl d0 w) (c : Nat) (hn : n ≤ 100000) (hid : ∀ i, i < n → d0 i = i) :
    Calls Try.prog 62 #[.slice (some ⟨blk, off, none⟩) n c, .int .i64 n, .func (.func 52) #[] #[]] w
      fun e w' => SortPost w0 blk off n k8 pl rs d0 e w' := by
  have H := Lib.hid h
  have HI := Lib.hid hid
  have RR := Lib.hid R
  have HCF := Lib.hid hcf
  clear h hid R hcf
  go_enter Try.func62, Try.ntmps62
  go_wp2
  go_loopg [7, 8] n (fun g va vb wr => ∃ (a : Nat) (d : Nat → Int), va = .int .i64 a ∧ vb = .int .i64 ((a : Int) + 20) ∧ a ≤ n ∧ n - a ≤ g ∧ Hid (20 ∣ a) ∧ Hid (ST w0 blk off n k8 pl d wr ∧ Made (rs) d n a ∧ Same 0 n d0 d))
  case atStart => exact ⟨0, d0, rfl, by go_num, Nat.zero_le _, Nat.le_refl _, Nat.dvd_zero _, H.out, Made.start HI.out, Same.refl _ _ _⟩
  case round =>
    obtain ⟨a, d, rfl, rfl, han, hg, HD, HS⟩ := hrel
    by_cases hlt : a + 20 ≤ n
    · have HC : Hid (Calls Try.prog 78 #[.slice (some ⟨blk, off, none⟩) n c, .int .i64 a, .int .i64 ((a : Int) + 20), .func (.func 52) #[] #[]] wr
        fun e w' => e = .returned (.tuple #[]) ∧ ∃ d', ST w0 blk off n k8 pl d' w' ∧ Srt (rs) d' a (a + 20) ∧ Same a (a + 20) d d') := by
        have := insertion_any w0 wr blk off n k8 RR.out pl rs HCF.out d HS.out.1 c a (a + 20) (by omega) hlt (by omega) (fun i h1 h2 => HS.out.2.1.2 i h1 (by omega))
        rwa [Int.natCast_add] at this
      go_wp2_with (go_at_call 78; refine HC.out.mono ?_; rintro e w1 ⟨rfl, d', hs1, hs2, hs3⟩)
      have HS1 : Hid (ST w0 blk off n k8 pl d' w1 ∧ Made (rs) d' n (a + 20) ∧ Same 0 n d0 d') := ⟨hs1, HS.out.2.1.next HD.out (by omega) hs3 hs2, HS.out.2.2.trans (hs3.wider (Nat.zero_le _) hlt)⟩
      clear hs1 hs2 hs3 HC HS
      go_roundg (n - (a + 20))
      case measure => omega
      case rel => exact ⟨a + 20, d', by go_num, by go_num, hlt, by omega, Nat.dvd_add HD.out (Nat.dvd_refl _), HS1⟩
    · have HC := Lib.hid (insertion_any w0 wr blk off n k8 RR.out pl rs HCF.out d HS.out.1 c a n han (Nat.le_refl _) (by omega) (fun i h1 h2 => HS.out.2.1.2 i h1 h2))
      go_wp2_with (go_at_call 78; refine HC.out.mono ?_; rintro e w1 ⟨rfl, d', hs1, hs2, hs3⟩)
      have HS1 : Hid (ST w0 blk off n k8 pl d' w1 ∧ Mrg (rs) d' n 20 0 ∧ Same 0 n d0 d') := ⟨hs1, (HS.out.2.1.next HD.out (by omega) hs3 hs2).mrg (by omega), HS.out.2.2.trans (hs3.wider (Nat.zero_le _) (Nat.le_refl _))⟩
      clear hs1 hs2 hs3 HC HS HD H HI
      go_loopg [6] n (fun g vs wr => ∃ (s : Nat) (d : Nat → Int), vs = .int .i64 s ∧ 1 ≤ s ∧ s ≤ 200000 ∧ n - s ≤ g ∧ Hid (ST w0 blk off n k8 pl d wr ∧ Mrg (rs) d n s 0 ∧ Same 0 n d0 d))
      case atStart => exact ⟨20, d', rfl, by omega, by omega, by omega, HS1⟩
      case round =>
        clear HS1
        obtain ⟨s, d, rfl, hs1, hs2, hg2, HS⟩ := hrel
        by_cases hsn : s < n
        · go_wp2
          go_loopg [7, 8] n (fun g va vb wr => ∃ (a : Nat) (d : Nat → Int), va = .int .i64 a ∧ vb = .int .i64 ((a : Int) + 2 * s) ∧ a ≤ n ∧ n - a ≤ g ∧ Hid (2 * s ∣ a) ∧ Hid (ST w0 blk off n k8 pl d wr ∧ Mrg (rs) d n s a ∧ Same 0 n d0 d))
          case atStart => exact ⟨0, d, rfl, by go_num, Nat.zero_le _, Nat.le_refl _, Nat.dvd_zero _, HS⟩
          case round =>
            clear HS
            obtain ⟨a, d, rfl, rfl, han, hg3, HD, HS⟩ := hrel
            by_cases hlt : a + 2 * s ≤ n
            · have HW := Lib.hid (HS.out.2.1.low HD.out (by omega))
              have HQ : Hid (min (a + 2 * s) n = a + 2 * s) := by show _ = _; omega
              have HC : Hid (Calls Try.prog 79 #[.slice (some ⟨blk, off, none⟩) n c, .int .i64 a, .int .i64 ((a : Int) + s), .int .i64 ((a : Int) + 2 * s), .func (.func 52) #[] #[]] wr
                fun e w' => MrgPost w0 blk off n k8 pl rs d a (a + 2 * s) e w') := by
                have hq := HW.out
                rw [HQ.out] at hq
                have := sym_any w0 blk off n k8 RR.out pl rs HCF.out c hn _ wr d a (a + s) (a + 2 * s) (Nat.le_refl _) HS.out.1 (by omega) (by omega) hlt hq.1 hq.2.1 hq.2.2
                rwa [Int.natCast_add, Int.natCast_add, Int.natCast_mul] at this
              go_wp2_with (go_at_call 79; refine HC.out.mono ?_; rintro e w1 ⟨rfl, d2, hm1, hm2, hm3⟩)
              have HS1 : Hid (ST w0 blk off n k8 pl d2 w1 ∧ Mrg (rs) d2 n s (a + 2 * s) ∧ Same 0 n d0 d2) := ⟨hm1, HS.out.2.1.next HD.out (by omega) (by rw [HQ.out]; exact hm3) (by rw [HQ.out]; exact hm2), HS.out.2.2.trans (hm3.wider (Nat.zero_le _) hlt)⟩
              clear hm1 hm2 hm3 HC HS HW HQ
              go_roundg (n - (a + 2 * s))
              case measure => omega
              case rel => exact ⟨a + 2 * s, d2, by go_num, by go_num, hlt, by omega, Nat.dvd_add HD.out (Nat.dvd_refl _), HS1⟩
            · by_cases hm : a + s < n
              · have HW := Lib.hid (HS.out.2.1.low HD.out hm)
                have HQ : Hid (min (a + 2 * s) n = n) := by show _ = _; omega
                have HC : Hid (Calls Try.prog 79 #[.slice (some ⟨blk, off, none⟩) n c, .int .i64 a, .int .i64 ((a : Int) + s), .int .i64 n, .func (.func 52) #[] #[]] wr
                  fun e w' => MrgPost w0 blk off n k8 pl rs d a n e w') := by
                  have hq := HW.out
                  rw [HQ.out] at hq
                  have := sym_any w0 blk off n k8 RR.out pl rs HCF.out c hn _ wr d a (a + s) n (Nat.le_refl _) HS.out.1 (by omega) hm (Nat.le_refl _) hq.1 hq.2.1 hq.2.2
                  rwa [Int.natCast_add] at this
                go_wp2_with (go_at_call 79; refine HC.out.mono ?_; rintro e w1 ⟨rfl, d2, hm1, hm2, hm3⟩)
                have HS1 : Hid (ST w0 blk off n k8 pl d2 w1 ∧ Mrg (rs) d2 n (2 * s) 0 ∧ Same 0 n d0 d2) := ⟨hm1, (HS.out.2.1.next HD.out hm (by rw [HQ.out]; exact hm3) (by rw [HQ.out]; exact hm2)).turn (by omega), HS.out.2.2.trans (hm3.wider (Nat.zero_le _) (Nat.le_refl _))⟩
                clear hm1 hm2 hm3 HC HS HW HQ
                go_roundg (n - 2 * s)
                case measure => omega
                case rel => exact ⟨2 * s, d2, by go_num, by omega, by omega, by omega, HS1⟩
              · have HS1 : Hid (ST w0 blk off n k8 pl d wr ∧ Mrg (rs) d n (2 * s) 0 ∧ Same 0 n d0 d) := ⟨HS.out.1, (HS.out.2.1.last HD.out (by omega)).turn (by omega), HS.out.2.2⟩
                clear HS
                go_wp2_with fail
                go_roundg (n - 2 * s)
                case measure => omega
                case rel => exact ⟨2 * s, d, by go_num, by omega, by omega, by omega, HS1⟩
        · go_wp2
          go_end0
          exact ⟨rfl, d, HS.out.1, HS.out.2.1.done (by omega), HS.out.2.2⟩

theorem sortp_any (w0 w : World) (blk off n k8 : Nat) (R : SR w0 blk off n k8) (pl : Int → Plc) (rs : Int → Int) (hcf : CfP pl rs n) (d0 : Nat → Int) (h : ST w0 blk off n k8 pl d0 w) (c : Nat) (hn : n ≤ 100000) (hid : ∀ i, i < n → d0 i = i) :
    Calls Try.prog 51 #[.slice (some ⟨blk, off, none⟩) n c, .func (.func 52) #[] #[]] w fun e w' => SortPost w0 blk off n k8 pl rs d0 e w' := by
  have HC := Lib.hid (stable_any w0 w blk off n k8 R pl rs hcf d0 h c hn hid)
  clear h hid R hcf
  go_enter Try.func51, Try.ntmps51
  go_wp2_with (go_at_call 62; refine HC.out.mono ?_; rintro e w1 ⟨rfl, hd⟩)
  go_end0
  exact ⟨rfl, hd⟩
end Go.Proofs.Ytfddhmhagijodaa
