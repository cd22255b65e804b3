/- mapping.At and what it calls: the walks. -/
import Derived.Test.YtppjjmjdiccloabFind
import Derived.Test.YtppjjmjdiccloabAtP
import Derived.Deep.RegionHeld3
namespace Go.Proofs.Ytppjjmjdiccloab
open Go.RowKit
set_option linter.unusedSimpArgs false

theorem date_any (d : Int) (w : World) : Calls Try.prog 27 #[.int .i64 d] w fun e w' => e = .returned (.bool (dateB d)) ∧ w = w' := by
  by_cases h : -25567 ≤ d
  · go_enter Try.func27, Try.ntmps27
    go_wp2
    go_ret
    exact ⟨retb (by simp [dateB]; omega), rfl⟩
  · go_enter Try.func27, Try.ntmps27
    go_wp2
    go_ret
    exact ⟨retb (by simp [dateB]; omega), rfl⟩
theorem rdate_any (d : Int) (w : World) : Calls Try.prog 26 #[.int .i64 d] w fun e w' => e = .returned (.bool (dateB d)) ∧ w = w' := by
  by_cases h : -25567 ≤ d
  · go_enter Try.func26, Try.ntmps26
    go_wp2
    go_ret
    exact ⟨retb (by simp [dateB]; omega), rfl⟩
  · go_enter Try.func26, Try.ntmps26
    go_wp2
    go_ret
    exact ⟨retb (by simp [dateB]; omega), rfl⟩

def cmpL (a b : Lnk) : Int := if a.since < b.since then -1 else if b.since < a.since then 1 else 0
theorem cmp_any (a b : Lnk) (w : World) : Calls Try.prog 30 #[.agg #[.int .i64 a.frm, .int .i64 a.to, .int .i64 a.since], .agg #[.int .i64 b.frm, .int .i64 b.to, .int .i64 b.since]] w fun e w' => e = .returned (.int .i64 (cmpL a b)) ∧ Keeps w w' := by
  by_cases h : a.since < b.since
  · have HC := Lib.hid (show cmpL a b = -1 by unfold cmpL; rw [if_pos h])
    go_enter Try.func30, Try.ntmps30
    go_wp2
    go_ret
    exact ⟨by rw [HC.out]; rfl, ((Keeps.refl w).alloc _).alloc _⟩
  · by_cases h2 : b.since < a.since
    · have HC := Lib.hid (show cmpL a b = 1 by unfold cmpL; rw [if_neg h, if_pos h2])
      go_enter Try.func30, Try.ntmps30
      go_wp2
      go_ret
      exact ⟨by rw [HC.out]; rfl, ((Keeps.refl w).alloc _).alloc _⟩
    · have HC := Lib.hid (show cmpL a b = 0 by unfold cmpL; rw [if_neg h, if_neg h2])
      go_enter Try.func30, Try.ntmps30
      go_wp2
      go_ret
      exact ⟨by rw [HC.out]; rfl, ((Keeps.refl w).alloc _).alloc _⟩

/-- A box of three cells holds a link. -/
structure BoxL (w : World) (g : Nat) (m : Lnk) : Prop where
  c0 : w.cell? ⟨g, 0, none⟩ = some (.int .i64 m.frm)
  c1 : w.cell? ⟨g, 1, none⟩ = some (.int .i64 m.to)
  c2 : w.cell? ⟨g, 2, none⟩ = some (.int .i64 m.since)
  f0 : w.frozen? ⟨g, 0, none⟩ = false
  f1 : w.frozen? ⟨g, 1, none⟩ = false
  f2 : w.frozen? ⟨g, 2, none⟩ = false
structure Box3 (w : World) (g : Nat) : Prop where
  c0 : ∃ v, w.cell? ⟨g, 0, none⟩ = some v
  c1 : ∃ v, w.cell? ⟨g, 1, none⟩ = some v
  c2 : ∃ v, w.cell? ⟨g, 2, none⟩ = some v
  f0 : w.frozen? ⟨g, 0, none⟩ = false
  f1 : w.frozen? ⟨g, 1, none⟩ = false
  f2 : w.frozen? ⟨g, 2, none⟩ = false

theorem BoxL.keeps {w w' : World} {g : Nat} {m : Lnk} (h : BoxL w g m) (k : Keeps w w') : BoxL w' g m :=
  ⟨k.cell h.c0, k.cell h.c1, k.cell h.c2, k.frz h.c0 h.f0, k.frz h.c1 h.f1, k.frz h.c2 h.f2⟩
theorem Box3.keeps {w w' : World} {g : Nat} (h : Box3 w g) (k : Keeps w w') : Box3 w' g := by
  obtain ⟨⟨v0, h0⟩, ⟨v1, h1⟩, ⟨v2, h2⟩, f0, f1, f2⟩ := h
  exact ⟨⟨v0, k.cell h0⟩, ⟨v1, k.cell h1⟩, ⟨v2, k.cell h2⟩, k.frz h0 f0, k.frz h1 f1, k.frz h2 f2⟩

set_option maxHeartbeats 1000000 in
theorem max_any (l : List Lnk) (m : Lnk) (ao : Option Addr) (cap b o : Nat) (w : World) (H : Lnks w ao l cap b o) (hm : bestL l = some m) :
    Calls Try.prog 29 #[.slice ao l.length cap, .func (.func 30) #[] #[]] w fun e w' => e = .returned m.val ∧ Keeps w w' := by
  have hcap := Sl.cap H
  have hle := Sl.le H
  have hl : 0 < l.length := by
    cases l with
    | nil => cases hm
    | cons x r => simp
  have HM := Lib.hid hm
  clear hm
  have hix := Sl.at H Try.underlying23 Try.sizeOf39 0 hl
  have c0 := H.cell Lnk.len 0 hl 0 _ rfl
  have c1 := H.cell Lnk.len 0 hl 1 _ rfl
  have c2 := H.cell Lnk.len 0 hl 2 _ rfl
  simp only [Nat.zero_mul, Nat.add_zero, Int.natCast_zero] at hix c0 c1 c2
  have hbl := World.block_lt_of_cell? w _ c0
  have HB0 : Hid (bestL (l.take 1) = some l[0]) := Lib.hid (by rw [List.take_succ_eq_append_getElem hl]; rfl)
  go_enter Try.func29, Try.ntmps29
  go_wp2_with fail
  go_loopw [6] (fun vi wr => ∃ (k : Nat) (x : Lnk), 1 ≤ k ∧ k ≤ l.length ∧ vi = .int .i64 k ∧ Hid (bestL (l.take k) = some x) ∧ Hid (Keeps w wr ∧ Box3 wr w.heap.size ∧ BoxL wr (w.heap.size + 1) x)) (fun vi _ => l.length - (intOf vi).toNat)
  case atStart => exact ⟨1, l[0], by omega, hl, rfl, HB0, Lib.hid ⟨((Keeps.refl w).alloc _).alloc _, ⟨⟨.int .i64 0, by go_simp⟩, ⟨.int .i64 0, by go_simp⟩, ⟨.int .i64 0, by go_simp⟩, by go_simp, by go_simp, by go_simp⟩, ⟨by go_simp, by go_simp, by go_simp, by go_simp, by go_simp, by go_simp⟩⟩⟩
  case round =>
    clear hix c0 c1 c2
    obtain ⟨k, x, hk1, hk, rfl, HX, HW⟩ := hrel
    by_cases hlt : k < l.length
    · have HL := H.keeps HW.out.1
      have hix := Sl.at HL Try.underlying23 Try.sizeOf39 k hlt
      have c0 := HL.cell Lnk.len k hlt 0 _ rfl
      have c1 := HL.cell Lnk.len k hlt 1 _ rfl
      have c2 := HL.cell Lnk.len k hlt 2 _ rfl
      simp only [Nat.add_zero] at c0
      obtain ⟨d0, d1, d2, g0, g1, g2⟩ := HW.out.2.2
      have HS := Lib.hid (show bestL (l.take (k + 1)) = some (pickL x l[k]) by rw [List.take_succ_eq_append_getElem hlt, bestL_snoc, HX.out])
      clear HL
      go_wp2_with fail
      go_region_held3 (fun w' => w'.cell? ⟨b, o + k * 3, none⟩ = some (.int .i64 l[k].frm) ∧ w'.cell? ⟨b, o + k * 3 + 1, none⟩ = some (.int .i64 l[k].to) ∧ w'.cell? ⟨b, o + k * 3 + 2, none⟩ = some (.int .i64 l[k].since) ∧ w'.cell? ⟨w.heap.size + 1, 0, none⟩ = some (.int .i64 x.frm) ∧ w'.cell? ⟨w.heap.size + 1, 1, none⟩ = some (.int .i64 x.to) ∧ w'.cell? ⟨w.heap.size + 1, 2, none⟩ = some (.int .i64 x.since))
        (first | go_keep | (exact ⟨hk2.cell c0, hk2.cell c1, hk2.cell c2, hk2.cell d0, hk2.cell d1, hk2.cell d2⟩))
        (first | (go_at_call 30; refine (cmp_any l[k] x _).mono ?_; rintro e w2 ⟨rfl, hk2⟩))
      have hkk : Keeps wr w2 := (Keeps.refl wr).drew.trans hk2
      have HW2 := Lib.hid (show Keeps w w2 ∧ Box3 w2 w.heap.size ∧ BoxL w2 (w.heap.size + 1) x from ⟨HW.out.1.trans hkk, HW.out.2.1.keeps hkk, HW.out.2.2.keeps hkk⟩)
      have c0' := hkk.cell c0
      have c1' := hkk.cell c1
      have c2' := hkk.cell c2
      clear c0 c1 c2 d0 d1 d2 g0 g1 g2 hk2 hkk HW
      obtain ⟨d0, d1, d2, g0, g1, g2⟩ := HW2.out.2.2
      by_cases hp : x.since < l[k].since
      · have e1 : 0 < cmpL l[k] x := by unfold cmpL; rw [if_neg (by omega), if_pos hp]; omega
        have ep := Lib.hid (show pickL x l[k] = l[k] by unfold pickL; rw [if_pos hp])
        obtain ⟨⟨v0, b0⟩, ⟨v1, b1⟩, ⟨v2, b2⟩, f0, f1, f2⟩ := HW2.out.2.1
        clear hp
        go_wp2
        go_roundw
        case rel => exact ⟨k + 1, l[k], by omega, by omega, by go_num, Lib.hid (by rw [HS.out, ep.out]), Lib.hid ⟨(by repeat (first | exact HW2.out.1 | refine Keeps.setCell ?_ (by simp) _)), ⟨⟨v0, by go_simp⟩, ⟨v1, by go_simp⟩, ⟨v2, by go_simp⟩, by go_simp, by go_simp, by go_simp⟩, ⟨by go_simp, by go_simp, by go_simp, by go_simp, by go_simp, by go_simp⟩⟩⟩
        case measure => simp [intOf]; omega
      · have e1 : ¬ 0 < cmpL l[k] x := by unfold cmpL; split <;> (try split) <;> omega
        have ep := Lib.hid (show pickL x l[k] = x by unfold pickL; rw [if_neg hp])
        clear hp d0 d1 d2 g0 g1 g2
        go_wp2
        go_roundw
        case rel => exact ⟨k + 1, x, by omega, by omega, by go_num, Lib.hid (by rw [HS.out, ep.out]), HW2⟩
        case measure => simp [intOf]; omega
    · obtain rfl : k = l.length := by omega
      have hxm : x = m := by
        have := HX.out
        rw [List.take_length, HM.out] at this
        exact (Option.some.inj this).symm
      subst hxm
      obtain ⟨d0, d1, d2, g0, g1, g2⟩ := HW.out.2.2
      obtain ⟨⟨v0, b0⟩, ⟨v1, b1⟩, ⟨v2, b2⟩, f0, f1, f2⟩ := HW.out.2.1
      have hbw := World.block_lt_of_cell? wr _ b0
      go_wp2
      refine bodyPost_ret (v := x.val) (by simp [results, Try.results29, go_sem, b0, b1, b2, hbw, Lnk.val]) rfl ?_
      exact ⟨rfl, by repeat (first | exact HW.out.1 | refine Keeps.setCell ?_ (Nat.le_refl _) _)⟩
end Go.Proofs.Ytppjjmjdiccloab
