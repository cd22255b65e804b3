/- Go's symmetric merge over the comparison of places: the walk, in general. -/
import Derived.Test.YtfddhmhagijodaaStM
import Derived.Deep.CutRange
namespace Go.Proofs.Ytfddhmhagijodaa
open Go.RowKit Go.Shelf Go.Lib Go.Sort
set_option linter.unusedSimpArgs false
set_option linter.unusedVariables false

set_option maxRecDepth 100000 in
set_option maxHeartbeats 4000000 in
theorem sym_any (w0 : World) (blk off n k8 : Nat) (R : SR w0 blk off n k8) (pl : Int → Plc) (rs : Int → Int) (hcf : CfP pl rs n) (c : Nat) (hn : n ≤ 100000) (N : Nat) :
    ∀ (w : World) (d0 : Nat → Int) (x m z : Nat) (_ : z - x ≤ N) (_ : ST w0 blk off n k8 pl d0 w) (_ : x < m) (_ : m < z) (_ : z ≤ n) (_ : Srt (rs) d0 x m) (_ : Srt (rs) d0 m z) (_ : Low d0 x m z),
    Calls Try.prog 79 #[.slice (some ⟨blk, off, none⟩) n c, .int .i64 x, .int .i64 m, .int .i64 z, .func (.func 52) #[] #[]] w
      fun e w' => MrgPost w0 blk off n k8 pl rs d0 x z e w' := by
  induction N with
  | zero => intro w d0 x m z h1 h2 h3 h4; omega
  | succ N ih =>
  have IH := Lib.hid ih
  clear ih
  intro w d0 x m z hN h hxm hmz hzn hs hr hl
  by_cases h1 : m = x + 1
  · subst h1
    exact sym_one_left w0 w blk off n k8 R pl rs hcf d0 h c x z hmz hzn hn hr hl
  by_cases h2 : z = m + 1
  · subst h2
    exact sym_one_right w0 w blk off n k8 R pl rs hcf d0 h c x m (by omega) hzn hn hs hl
  have H := Lib.hid h
  have HL := Lib.hid hl
  have HR := Lib.hid hr
  have HS := Lib.hid hs
  have RR := Lib.hid R
  have HCF := Lib.hid hcf
  have zE : ∀ w, (Go.sizeOf 75).run Try.prog w = .ok k8 w := by rw [R.k8]; exact Try.sizeOf75
  have ZE := Lib.hid zE
  have aE := Try.isAgg75
  have mixed : Try.prog.follows .mixedOrders = true := by kernel_rfl
  clear h hl hs hr hcf
  have hb1 : ((m : Int) - x == 1) = false := beq_eq_false_iff_ne.2 (by omega)
  have hb2 : ((z : Int) - m == 1) = false := beq_eq_false_iff_ne.2 (by omega)
  obtain ⟨mid, hmid⟩ : ∃ mid : Nat, mid = (x + z) / 2 := ⟨_, rfl⟩
  have HM := Lib.hid hmid
  have hmi : ((x : Int) + z) / 2 = (mid : Int) := by omega
  have hxd : x < mid := by omega
  have hdz : mid < z := by omega
  clear hmid
  go_enter Try.func79, Try.ntmps79
  go_upto_if 140 with (fail)
  go_cut [20, 21] from 141 to 146 (fun vs vr wx => ∃ lo hi : Nat, vs = .int .i64 lo ∧ vr = .int .i64 hi ∧ wx = w ∧ Hid ((mid < m ∧ lo = mid + m - z ∧ hi = mid) ∨ (m ≤ mid ∧ lo = x ∧ hi = m)))
  case first =>
    by_cases hc : mid < m
    · go_wp2_with fail
      go_meet
      exact ⟨mid + m - z, mid, by congr 1; omega, rfl, rfl, .inl ⟨hc, rfl, rfl⟩⟩
    · go_wp2_with fail
      go_meet
      exact ⟨x, m, rfl, rfl, rfl, .inr ⟨by omega, rfl, rfl⟩⟩
  case rest =>
    obtain ⟨lo, hi, rfl, rfl, rfl, HC⟩ := hcut
    have b1 : x ≤ lo ∧ lo ≤ hi ∧ hi ≤ m ∧ hi ≤ mid := by have := HC.out; have := HM.out; omega
    have b2 : mid + m - 1 < z + lo ∧ m + hi ≤ mid + m - 1 + 1 := by have := HC.out; have := HM.out; omega
    go_wp2_with fail
    go_loopg [20, 21] (hi - lo) (fun g vs vr wr => ∃ s r : Nat, vs = .int .i64 s ∧ vr = .int .i64 r ∧ lo ≤ s ∧ s ≤ r ∧ r ≤ hi ∧ r - s ≤ g ∧ Hid (ST w0 blk off n k8 pl d0 wr ∧ Sym (rs) d0 (mid + m - 1) lo hi s r))
    case atStart => exact ⟨lo, hi, rfl, rfl, Nat.le_refl _, b1.2.1, Nat.le_refl _, Nat.le_refl _, H.out, Sym.start b1.2.1⟩
    case round =>
      obtain ⟨s, r, rfl, rfl, hls, hsr, hrh, hg, HY⟩ := hrel
      by_cases hlt : s < r
      · obtain ⟨h, hh⟩ : ∃ h : Nat, h = (s + r) / 2 := ⟨_, rfl⟩
        have hmid : ((s : Int) + r) / 2 = (h : Int) := by omega
        have hih : s ≤ h := by omega
        have hhj : h < r := by omega
        clear hh
        obtain ⟨p, hp⟩ : ∃ p : Nat, p = mid + m - 1 - h := ⟨_, rfl⟩
        have hpc : (mid : Int) + m - 1 - h = (p : Int) := by omega
        have hpw : IntKind.i64.wrap (p : Int) = (p : Int) := by rw [IntKind.wrap_i64]; omega
        have hpm : m ≤ p := by omega
        have hpz : p < z := by omega
        have HP := Lib.hid hp
        clear hp
        have hlow : d0 h < d0 p := HL.out h p (by omega) (by omega) hpm hpz
        have hix0 := rowAtK (P := Try.prog) Try.underlying72 ZE.out blk off n c h (by omega)
        have hix1 := rowAtK (P := Try.prog) Try.underlying72 ZE.out blk off n c p (by omega)
        have lj := HY.out.1.ld RR.out h (by omega)
        have lp := HY.out.1.ld RR.out p (by omega)
        have hcg := HY.out.1.cmp HCF.out p h (by omega) (by omega)
        cases hlv : decide (cmpI (rs (d0 h)) (rs (d0 p)) < 0) with
        | true =>
          have HF : Hid (Sym (rs) d0 (mid + m - 1) lo hi s h) := HY.out.2.down HS.out HR.out b1.1 b1.2.2.1 b2.1 b2.2 hih hhj (by rw [← HP.out]; exact (lss_late hlow).2 (of_decide_eq_true hlv))
          clear hlow
          go_wp2_with fail
          go_quiet_grown (first | (go_at_call 52; refine Calls.grown_of (hcg _ _)))
          go_wp2_with fail
          go_roundg (h - s)
          case measure => omega
          case rel => exact ⟨s, h, rfl, rfl, by omega, by omega, by omega, by omega, HY.out.1.grown _ _, HF.out⟩
        | false =>
          have hge : lss (rs) (d0 h) (d0 p) := by
            rcases lss_total (rs := rs) (show d0 h ≠ d0 p by omega) with h' | h'
            · exact h'
            · exact absurd ((lss_late hlow).1 h') (of_decide_eq_false hlv)
          have HF : Hid (Sym (rs) d0 (mid + m - 1) lo hi (h + 1) r) := HY.out.2.up HS.out HR.out b1.1 b1.2.2.1 b2.1 b2.2 hih hhj (by rw [← HP.out]; exact hge)
          clear hlow hge
          go_wp2_with fail
          go_quiet_grown (first | (go_at_call 52; refine Calls.grown_of (hcg _ _)))
          go_wp2_with fail
          go_roundg (r - (h + 1))
          case measure => omega
          case rel => exact ⟨h + 1, r, by go_num, rfl, by omega, by omega, by omega, by omega, HY.out.1.grown _ _, HF.out⟩
      · obtain rfl : s = r := by omega
        have HCUT := Lib.hid (HY.out.2.cut HS.out HR.out HM.out hxm hmz HC.out)
        have HS0 := Lib.hid HY.out.1
        clear HY hlt hsr
        obtain ⟨e, he⟩ : ∃ e : Nat, e = mid + m - s := ⟨_, rfl⟩
        have hpe : (mid : Int) + m - s = (e : Int) := by omega
        have HE := Lib.hid he
        have b3 : s ≤ m ∧ s ≤ mid ∧ mid ≤ e ∧ m ≤ e ∧ e ≤ z := by
          obtain ⟨q1, q2, q3, q4, _, _⟩ := HCUT.out; omega
        have hq : mid = s + (e - m) := by obtain ⟨q1, q2, q3, q4, _, _⟩ := HCUT.out; omega
        have hpr := HCUT.out.parts HS.out HR.out HL.out mid (by rw [← he]; exact hq)
        have hcr := HCUT.out.crs HS.out HR.out mid (by rw [← he]; exact hq)
        rw [← he] at hpr hcr
        obtain ⟨p1, p2, p3, p4, p5, p6⟩ := hpr
        have P1 := Lib.hid p1
        have P2 := Lib.hid p2
        have P3 := Lib.hid p3
        have P4 := Lib.hid p4
        have P5 := Lib.hid p5
        have P6 := Lib.hid p6
        have PC := Lib.hid hcr
        have PS := Lib.hid ((rotd_same d0 (show s ≤ m from b3.1) (show m ≤ e from b3.2.2.2.1)).wider (show x ≤ s by omega) b3.2.2.2.2)
        have PT : Hid (s = m ∨ m = e → rotd d0 s m e = d0) := rotd_triv d0 b3.1 b3.2.2.2.1
        clear he hq p1 p2 p3 p4 p5 p6 hcr
        go_upto_region 39 with (fail)
        go_cut [185] from 178 to 185 (fun v wx => ∃ q : Bool, v = .bool q ∧ wx = wr ∧ Hid (q = true ↔ s < m ∧ m < e))
        case first =>
          by_cases c1 : s < m
          · by_cases c2 : m < e
            · go_wp2_with fail
              go_meet
              exact ⟨true, rfl, rfl, Lib.hid (by simp [c1, c2])⟩
            · go_wp2_with fail
              go_meet
              exact ⟨false, rfl, rfl, Lib.hid (by simp [c2])⟩
          · go_wp2_with fail
            go_meet
            exact ⟨false, rfl, rfl, Lib.hid (by simp [c1])⟩
        case rest =>
          obtain ⟨q, rfl, rfl, HB⟩ := hcut
          go_upto_if 185 with (fail)
          go_cut [20] from 186 to 191 (fun v wx => v = .int .i64 s ∧ Hid (ST w0 blk off n k8 pl (rotd d0 s m e) wx))
          case first =>
            cases q with
            | true =>
              have HRT := Lib.hid (rotate_any w0 _ blk off n k8 RR.out pl d0 HS0.out c s m e (HB.out.1 rfl).1 (HB.out.1 rfl).2 (by omega) hn)
              go_wp2_with (go_at_call 93; refine HRT.out.mono ?_; rintro e' w1 ⟨rfl, hs1⟩)
              go_meet
              exact ⟨rfl, hs1⟩
            | false =>
              have HE2 : Hid (rotd d0 s m e = d0) := by
                refine PT.out ?_
                by_cases c1 : s < m ∧ m < e
                · have := HB.out.2 c1; simp at this
                · omega
              go_wp2_with fail
              go_meet
              exact ⟨rfl, by rw [HE2.out]; exact HS0⟩
          case rest =>
            obtain ⟨rfl, HS1⟩ := hcut
            go_upto_region 41 with (fail)
            go_cut [199] from 192 to 199 (fun v wx => ∃ q : Bool, v = .bool q ∧ Hid (ST w0 blk off n k8 pl (rotd d0 s m e) wx) ∧ Hid (q = true ↔ x < s ∧ s < mid))
            case first =>
              by_cases c1 : x < s
              · by_cases c2 : s < mid
                · go_wp2_with fail
                  go_meet
                  exact ⟨true, rfl, HS1, Lib.hid (by simp [c1, c2])⟩
                · go_wp2_with fail
                  go_meet
                  exact ⟨false, rfl, HS1, Lib.hid (by simp [c2])⟩
              · go_wp2_with fail
                go_meet
                exact ⟨false, rfl, HS1, Lib.hid (by simp [c1])⟩
            case rest =>
              clear HS1
              obtain ⟨q, rfl, HS1, HB⟩ := hcut
              go_upto_if 199 with (fail)
              go_cut [20] from 200 to 205 (fun v wx => v = .int .i64 s ∧ ∃ D : Nat → Int, Hid (ST w0 blk off n k8 pl D wx ∧ Srt (rs) D x mid ∧ Same x mid (rotd d0 s m e) D))
              case first =>
                cases q with
                | true =>
                  have HRT := Lib.hid (IH.out _ _ x s mid (by omega) HS1.out (HB.out.1 rfl).1 (HB.out.1 rfl).2 (by omega) P1.out P2.out P3.out)
                  go_wp2_with (go_at_call 79; refine HRT.out.mono ?_; rintro e' w1 ⟨rfl, D, hs1, hs2, hs3⟩)
                  go_meet
                  exact ⟨rfl, D, hs1, hs2, hs3⟩
                | false =>
                  have HE2 : Hid (Srt (rs) (rotd d0 s m e) x mid) := by
                    have c1 : ¬ (x < s ∧ s < mid) := fun h => by have := HB.out.2 h; simp at this
                    rcases Nat.lt_or_eq_of_le b3.2.1 with h' | h'
                    · have := P2.out; rwa [show s = x by omega] at this ⊢
                    · have := P1.out; rwa [h'] at this ⊢
                  go_wp2_with fail
                  go_meet
                  exact ⟨rfl, _, HS1.out, HE2.out, Same.refl _ _ _⟩
              case rest =>
                clear HS1
                obtain ⟨rfl, D, HS1⟩ := hcut
                have Q4 := Lib.hid (P4.out.out HS1.out.2.2 (.inr (Nat.le_refl _)))
                have Q5 := Lib.hid (P5.out.out HS1.out.2.2 (.inr b3.2.2.1))
                have Q6 := Lib.hid (P6.out.out HS1.out.2.2 (.inr (Nat.le_refl _)))
                have QC := Lib.hid (PC.out.sameL HS1.out.2.2)
                have QS := Lib.hid (PS.out.trans (HS1.out.2.2.wider (Nat.le_refl _) (show mid ≤ z by omega)))
                go_upto_region 43 with (fail)
                go_cut [213] from 206 to 213 (fun v wx => ∃ q : Bool, v = .bool q ∧ Hid (ST w0 blk off n k8 pl D wx) ∧ Hid (q = true ↔ mid < e ∧ e < z))
                case first =>
                  by_cases c1 : mid < e
                  · by_cases c2 : e < z
                    · go_wp2_with fail
                      go_meet
                      exact ⟨true, rfl, HS1.out.1, Lib.hid (by simp [c1, c2])⟩
                    · go_wp2_with fail
                      go_meet
                      exact ⟨false, rfl, HS1.out.1, Lib.hid (by simp [c2])⟩
                  · go_wp2_with fail
                    go_meet
                    exact ⟨false, rfl, HS1.out.1, Lib.hid (by simp [c1])⟩
                case rest =>
                  obtain ⟨q, rfl, HS2, HB⟩ := hcut
                  cases q with
                  | true =>
                    have HRT := Lib.hid (IH.out _ _ mid e z (by omega) HS2.out (HB.out.1 rfl).1 (HB.out.1 rfl).2 hzn Q4.out Q5.out Q6.out)
                    go_wp2_with (go_at_call 79; refine HRT.out.mono ?_; rintro e' w1 ⟨rfl, D2, hs1, hs2, hs3⟩)
                    go_end0
                    exact ⟨rfl, D2, hs1, (QC.out.sameR hs3).srt (HS1.out.2.1.out hs3 (.inl (Nat.le_refl _))) hs2, QS.out.trans (hs3.wider (show x ≤ mid by omega) (Nat.le_refl _))⟩
                  | false =>
                    have HE2 : Hid (Srt (rs) D mid z) := by
                      have c1 : ¬ (mid < e ∧ e < z) := fun h => by have := HB.out.2 h; simp at this
                      rcases Nat.lt_or_eq_of_le b3.2.2.1 with h' | h'
                      · have := Q4.out; rwa [show e = z by omega] at this
                      · have := Q5.out; rwa [← h'] at this
                    go_wp2_with fail
                    go_end0
                    exact ⟨rfl, D, HS2.out, QC.out.srt HS1.out.2.1 HE2.out, QS.out⟩
end Go.Proofs.Ytfddhmhagijodaa
