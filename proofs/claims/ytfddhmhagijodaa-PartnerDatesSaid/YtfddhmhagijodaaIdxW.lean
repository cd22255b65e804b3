/- slices.IndexFunc at places with between's closure: the walk. -/
import Derived.Test.YtfddhmhagijodaaBetW
namespace Go.Proofs.Ytfddhmhagijodaa
open Go.RowKit
set_option linter.unusedSimpArgs false
set_option linter.unusedVariables false

def IdxPost (w : World) (en pt : Int) (xs : List Plc) (e : Ending) (w' : World) : Prop :=
  Keeps w w' ∧ ∃ k : Nat, k ≤ xs.length ∧ (∀ p ∈ xs.take k, outsB en pt p = false) ∧ ((k = xs.length ∧ e = .returned (.int .i64 (-1))) ∨ (∃ hk : k < xs.length, outsB en pt xs[k] = true ∧ e = .returned (.int .i64 k)))
set_option maxHeartbeats 1000000 in
theorem idx_any (be bp : Nat) (en pt : Int) (ao : Option Addr) (xs : List Plc) (cap b o : Nat) (w : World) (H : Recs w 8 Plc.cells ao xs cap b o) (he : w.cell? ⟨be, 0, none⟩ = some (.int .i64 en)) (hp : w.cell? ⟨bp, 0, none⟩ = some (.int .i64 pt)) :
    Calls Try.prog 58 #[.slice ao xs.length cap, .func (.func 46) #[] #[.pointer (some ⟨be, 0, none⟩), .pointer (some ⟨bp, 0, none⟩)]] w (IdxPost w en pt xs) := by
  have hcap := Sl.cap H
  have hle := Sl.le H
  have HH := Lib.hid H
  clear H
  go_enter Try.func58, Try.ntmps58
  go_wp2_with fail
  go_loopw [8] (fun vi wr => ∃ k : Nat, k ≤ xs.length ∧ vi = .int .i64 k ∧ Hid (Keeps w wr) ∧ Hid (∀ p ∈ xs.take k, outsB en pt p = false)) (fun vi _ => xs.length - (intOf vi).toNat)
  case atStart => exact ⟨0, Nat.zero_le _, rfl, Lib.hid (Keeps.refl w), Lib.hid (by simp)⟩
  case round =>
    obtain ⟨k, hk, rfl, HK, HZ⟩ := hrel
    by_cases hlt : k < xs.length
    · have hr := HH.out.keeps HK.out
      have hix := Sl.at hr Try.underlying72 Try.sizeOf75 k hlt
      obtain ⟨p, hpk⟩ : ∃ p, xs[k] = p := ⟨_, rfl⟩
      have c0 := hr.cell Plc.len k hlt 0 (.int .i64 p.eid) (by rw [hpk]; rfl)
      rw [Nat.add_zero] at c0
      have c1 := hr.cell Plc.len k hlt 1 (.int .i64 p.idx) (by rw [hpk]; rfl)
      have c2 := hr.cell Plc.len k hlt 2 (.int .i64 p.date) (by rw [hpk]; rfl)
      have c3 := hr.cell Plc.len k hlt 3 (.int .i64 p.at_) (by rw [hpk]; rfl)
      have c4 := hr.cell Plc.len k hlt 4 (.int .i64 p.ent) (by rw [hpk]; rfl)
      have c5 := hr.cell Plc.len k hlt 5 (.int .i64 p.acc) (by rw [hpk]; rfl)
      have c6 := hr.cell Plc.len k hlt 6 (.int .i64 p.amt) (by rw [hpk]; rfl)
      have c7 := hr.cell Plc.len k hlt 7 (.int .i64 p.ptn) (by rw [hpk]; rfl)
      have HB := Lib.hid (between1_any p be bp en pt wr (HK.out.cell he) (HK.out.cell hp))
      have HP := Lib.hid hpk
      clear hr hpk
      cases hob : outsB en pt p with
      | true =>
        rw [hob] at HB
        have HO := Lib.hid hob
        clear hob
        go_wp2_with (go_at_call 46; refine HB.out.mono ?_; rintro e w1 ⟨rfl, hk1⟩)
        go_ret
        exact ⟨HK.out.trans hk1, k, hk, HZ.out, .inr ⟨hlt, by rw [HP.out]; exact HO.out, rfl⟩⟩
      | false =>
        rw [hob] at HB
        have HZ2 : Hid (∀ q ∈ xs.take (k + 1), outsB en pt q = false) := Lib.hid (by
          rw [take_snoc _ k hlt]
          intro q hq
          rcases List.mem_append.1 hq with h | h
          · exact HZ.out q h
          · rw [List.mem_singleton] at h; rw [h, HP.out]; exact hob)
        clear hob
        go_wp2_with (go_at_call 46; refine HB.out.mono ?_; rintro e w1 ⟨rfl, hk1⟩)
        go_roundw
        case rel => exact ⟨k + 1, by omega, by go_num, Lib.hid (HK.out.trans hk1), HZ2⟩
        case measure => simp [intOf]; omega
    · obtain rfl : k = xs.length := by omega
      go_wp2_with fail
      go_ret
      exact ⟨HK.out, xs.length, Nat.le_refl _, HZ.out, .inl ⟨rfl, rfl⟩⟩
end Go.Proofs.Ytfddhmhagijodaa
