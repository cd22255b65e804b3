/- The reference's Parts: the walk. -/
import Derived.Test.YtkpdimbblcmnaaaScopeT
import Derived.Deep.CutRange
namespace Go.Proofs.Ytkpdimbblcmnaaa
open Go.RowKit
set_option linter.unusedSimpArgs false
set_option linter.unusedVariables false

set_option maxRecDepth 100000 in
set_option maxHeartbeats 4000000 in
theorem rparts_any (js : List Bool) (l : List Hol) (xs : List Int) (hxs : IsDates l xs) (en mt fr tt : Int) (ao : Option Addr) (cap b o : Nat) (aol : Option Addr) (capl bl ol : Nat) (w : World) (HJ : Ents w ao js cap b o) (H : Hols w aol l capl bl ol) (hlen : l.length ≤ 900) :
    Calls Try.prog 27 #[.agg #[.string ⟨#[]⟩, .int .i64 0, .int .i64 0, .int .i64 0, .slice none 0 0, .int .i64 0, .int .i64 0, .int .i64 0, .int .i64 0, .int .i64 0, .int .i64 0, .int .i64 0, .int .i64 0, .int .i64 0, .int .i64 0, .int .i64 0, .int .i64 0, .int .i64 0, .int .i64 0, .int .i64 0, .slice ao js.length cap], .slice aol l.length capl, .int .i64 en, .int .i64 mt, .int .i64 fr, .int .i64 tt] w (IvOut w (partR (ivR js l xs en) mt fr tt)) := by
  have hall := fun W (hk : Keeps w W) => rivals_any js l xs hxs en ao cap b o aol capl bl ol W (HJ.keeps hk) (H.keeps hk) hlen
  have hcap := Sl.cap HJ
  have hle := Sl.le HJ
  have hload := (RowB.new w 33 (grpC (.slice ao js.length cap))).range
  obtain ⟨⟨rl, re⟩, hr⟩ : ∃ r, ivR js l xs en = r := ⟨_, rfl⟩
  have hrlen : rl.length ≤ 1000 := by have := ivR_len (js := js) (en := en) hxs hlen; rw [hr] at this; exact this
  rw [hr] at hall ⊢
  have HI : Hid (∀ W, Keeps w W → Calls Try.prog 24 #[.agg #[.string ⟨#[]⟩, .int .i64 0, .int .i64 0, .int .i64 0, .slice none 0 0, .int .i64 0, .int .i64 0, .int .i64 0, .int .i64 0, .int .i64 0, .int .i64 0, .int .i64 0, .int .i64 0, .int .i64 0, .int .i64 0, .int .i64 0, .int .i64 0, .int .i64 0, .int .i64 0, .int .i64 0, .slice ao js.length cap], .slice aol l.length capl, .int .i64 en] W fun e w' => ∃ ao cap b o, e = .returned (.tuple #[.slice ao rl.length cap, .int .i64 re]) ∧ Ivls w' ao rl cap b o ∧ Keeps W w') := Lib.hid hall
  clear hall hr HJ H
  by_cases h0 : re = 0
  · subst h0
    rw [part_0]
    go_enter Try.func27, Try.ntmps27
    go_wp2_with (first | (refine wpList_load_mid rfl 33 _ rfl w.heap.size 0 rfl (grpC (.slice ao js.length cap)) _ hload Try.underlying33 rfl groupSize ?_) | (go_at_call 24; (refine (HI.out _ ((Keeps.refl w).alloc _)).mono ?_); rintro e w2 ⟨ao2, cap2, b2, o2, rfl, hs2, hk2⟩; have K2 := Lib.hid hk2; have HS2 := Lib.hid hs2; have hc2 := Sl.cap hs2; have hl2 := Sl.le hs2; clear hs2 hk2))
    go_loopw [16, 17] (fun vo vi wr => ∃ k : Nat, k ≤ rl.length ∧ vi = .int .i64 k ∧ Hid (Keeps w2 wr ∧ wr.ownsRow w2.heap.size 57 3 vo (partsI (rl.take k) mt fr tt).length ((partsI (rl.take k) mt fr tt).flatMap Ivl.cells))) (fun _ vi _ => rl.length - (intOf vi).toNat)
    case atStart => exact ⟨0, Nat.zero_le _, rfl, Lib.hid ⟨Keeps.refl _, World.ownsRow_nil _ _ _ _⟩⟩
    case round =>
      obtain ⟨k, hk, rfl, HX⟩ := hrel
      by_cases hlt : k < rl.length
      · have HSk := HS2.out.keeps HX.out.1
        have c0 := HSk.cell Ivl.len k hlt 0 _ rfl
        have c1 := HSk.cell Ivl.len k hlt 1 _ rfl
        have c2 := HSk.cell Ivl.len k hlt 2 _ rfl
        have hix := Sl.at HSk Try.underlying47 Try.sizeOf57 k hlt
        simp only [Nat.add_zero] at c0
        have hlb := World.block_lt_of_cell? _ _ c0
        have hpl := partsI_len (rl.take k) mt fr tt
        rw [List.length_take] at hpl
        have HT : Hid (partsI (rl.take (k + 1)) mt fr tt = if partB mt fr tt rl[k] = true then partsI (rl.take k) mt fr tt ++ [cutI rl[k] fr tt] else partsI (rl.take k) mt fr tt) := Lib.hid (by rw [take_snoc _ _ hlt, partsI_snoc])
        obtain ⟨z, hz⟩ : ∃ z, rl[k] = z := ⟨_, rfl⟩
        rw [hz] at c0 c1 c2 HT
        clear hz HSk
        obtain ⟨va, hva⟩ : ∃ va, max z.frm fr = va := ⟨_, rfl⟩
        obtain ⟨vb, hvb⟩ : ∃ vb, min z.to tt = vb := ⟨_, rfl⟩
        have HA := Lib.hid hva
        have HB := Lib.hid hvb
        go_upto_region 8 with (fail)
        go_cut [18] from 35 to 50 (fun v18 wx => v18 = .pointer (some ⟨wr.heap.size, 0, none⟩) ∧ Hid (wx = (wr.alloc (.cells #[.int .i64 va, .int .i64 vb, .int .i64 mt] 57)).drew))
        case first =>
          go_region_law (fail)
          all_goals (go_wp2_with fail; go_meet; exact ⟨rfl, rfl⟩)
        case rest =>
          obtain ⟨rfl, HC⟩ := hcut
          have HXC : Hid (Keeps w2 wc ∧ wc.ownsRow w2.heap.size 57 3 u16 (partsI (rl.take k) mt fr tt).length ((partsI (rl.take k) mt fr tt).flatMap Ivl.cells)) := Lib.hid (by rw [HC.out]; exact ⟨(HX.out.1.alloc _).drew, (HX.out.2.alloc _).drew⟩)
          obtain ⟨d0, d1, d2, dz⟩ : wc.cell? ⟨wr.heap.size, 0, none⟩ = some (.int .i64 va) ∧ wc.cell? ⟨wr.heap.size, 1, none⟩ = some (.int .i64 vb) ∧ wc.cell? ⟨wr.heap.size, 2, none⟩ = some (.int .i64 mt) ∧ wr.heap.size < wc.heap.size := by rw [HC.out]; exact ⟨by go_simp, by go_simp, by go_simp, by simp⟩
          obtain ⟨p0, p1, p2, pz⟩ : wc.cell? ⟨b2, o2 + k * 3, none⟩ = some (.int .i64 z.frm) ∧ wc.cell? ⟨b2, o2 + k * 3 + 1, none⟩ = some (.int .i64 z.to) ∧ wc.cell? ⟨b2, o2 + k * 3 + 2, none⟩ = some (.int .i64 z.mth) ∧ b2 < wc.heap.size := by rw [HC.out]; exact ⟨by go_simp, by go_simp, by go_simp, by simp; exact Nat.lt_succ_of_lt hlb⟩
          clear c0 c1 c2 hlb HC
          by_cases h1 : z.mth = mt
          · have h1' : (z.mth == mt) = true := by simpa using h1
            by_cases h2 : max z.frm fr < min z.to tt
            · have h2' : decide (max z.frm fr < min z.to tt) = true := decide_eq_true h2
              have HNX : Hid (partsI (rl.take (k + 1)) mt fr tt = partsI (rl.take k) mt fr tt ++ [⟨max z.frm fr, min z.to tt, mt⟩]) := Lib.hid (by rw [HT.out, if_pos (by simp [partB, h1, h2]), ← h1]; rfl)
              rw [HA.out, HB.out] at HNX h2'
              clear h2 HT
              go_wp2_with (at_builtin; refine wpList_appx elemIvl rfl _ _ (by rfl) w2 _ _ _ (by rfl) w2.heap.size HXC.out.2 HXC.out.1 HXC.out.1.size (Ivl.cells ⟨va, vb, mt⟩) _ 1 (by rfl) (by simp) (by rfl) (ivl_one _) (by omega) (by omega) ?_; intro v5 w5 hown5 hb5 hz5; have HX5 : Hid (Keeps w2 w5 ∧ w5.ownsRow w2.heap.size 57 3 v5 (partsI (rl.take (k + 1)) mt fr tt).length ((partsI (rl.take (k + 1)) mt fr tt).flatMap Ivl.cells)) := Lib.hid ⟨hb5, by rw [HNX.out, List.length_append, List.flatMap_append]; simpa [List.flatMap] using hown5⟩; clear hown5 hb5 hz5)
              go_roundw
              case rel => exact ⟨k + 1, by omega, by go_num, HX5⟩
              case measure => simp [intOf]; omega
            · have h2' : decide (max z.frm fr < min z.to tt) = false := decide_eq_false h2
              have HNX : Hid (partsI (rl.take (k + 1)) mt fr tt = partsI (rl.take k) mt fr tt) := Lib.hid (by rw [HT.out, if_neg (by simp [partB, h2])])
              rw [HA.out, HB.out] at h2'
              clear h2 HT
              go_wp2_with fail
              go_roundw
              case rel => exact ⟨k + 1, by omega, by go_num, by rw [HNX.out]; exact HXC⟩
              case measure => simp [intOf]; omega
          · have h1' : (z.mth == mt) = false := by simpa using h1
            have HNX : Hid (partsI (rl.take (k + 1)) mt fr tt = partsI (rl.take k) mt fr tt) := Lib.hid (by rw [HT.out, if_neg (by simp [partB, h1])])
            clear h1 HT
            go_wp2_with fail
            go_roundw
            case rel => exact ⟨k + 1, by omega, by go_num, by rw [HNX.out]; exact HXC⟩
            case measure => simp [intOf]; omega
      · obtain rfl : k = rl.length := by omega
        rw [List.take_length] at HX
        obtain ⟨ao9, cap9, b9, rfl, hs9⟩ := Recs.own HX.out.2
        go_wp2_with fail
        go_ret2
        exact ⟨ao9, cap9, b9, 0, rfl, hs9, ((Keeps.refl w).alloc _).trans (K2.out.trans HX.out.1)⟩
  · have HQ := Lib.hid (part_1 (r := (rl, re)) (m := mt) (a := fr) (b := tt) h0)
    have e3 : (!(re == 0)) = true := by simpa using h0
    go_enter Try.func27, Try.ntmps27
    go_wp2_with (first | (refine wpList_load_mid rfl 33 _ rfl w.heap.size 0 rfl (grpC (.slice ao js.length cap)) _ hload Try.underlying33 rfl groupSize ?_) | (go_at_call 24; (refine (HI.out _ ((Keeps.refl w).alloc _)).mono ?_); rintro e w2 ⟨ao2, cap2, b2, o2, rfl, hs2, hk2⟩; have K2 := Lib.hid hk2; have HS2 := Lib.hid hs2; have hc2 := Sl.cap hs2; have hl2 := Sl.le hs2; clear hs2 hk2))
    go_ret2
    exact ⟨none, 0, 0, 0, by rw [HQ.out]; rfl, by rw [HQ.out]; exact Sl.nil _ _, ((Keeps.refl w).alloc _).trans K2.out⟩
end Go.Proofs.Ytkpdimbblcmnaaa
