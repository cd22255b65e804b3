/- The reference's Same: whether two lists of ints are equal. -/
import Derived.Test.YtkpdimbblcmnaaaProg
import Derived.Test.YtkpdimbblcmnaaaKBase
import Derived.Deep.QuietTactic
import Derived.BigQuiet
namespace Go.Proofs.Ytkpdimbblcmnaaa
open Go.RowKit

theorem ne_of_at {xs ys : List Int} (k : Nat) (h1 : k < xs.length) (h2 : k < ys.length) (h : xs[k] ≠ ys[k]) : xs ≠ ys := by
  rintro rfl; exact h rfl
theorem eq_of_all {xs ys : List Int} (h : xs.length = ys.length) (ha : ∀ j (h1 : j < xs.length) (h2 : j < ys.length), xs[j] = ys[j]) : xs = ys :=
  List.ext_getElem h ha

set_option maxHeartbeats 400000 in
theorem codes_any (xs ys : List Int) (ao ao2 : Option Addr) (cap b o cap2 b2 o2 : Nat) (w : World) (H : Sl w 1 ao xs.length cap b o (xs.map (.int .i64))) (H2 : Sl w 1 ao2 ys.length cap2 b2 o2 (ys.map (.int .i64))) :
    Calls Try.prog 18 #[.slice ao xs.length cap, .slice ao2 ys.length cap2] w fun e w' => Gives w (.bool (decide (xs = ys))) e w' := by
  have hcap := H.cap
  have hle := H.le
  have hcap2 := H2.cap
  have hle2 := H2.le
  by_cases hl : xs.length = ys.length
  · have hb : ((xs.length : Int) != (ys.length : Int)) = false := by simp [hl]
    have HL := Lib.hid hl
    have hl1 : xs.length ≤ ys.length := by omega
    have hl2 : ys.length ≤ xs.length := by omega
    clear hl
    go_enter Try.func18, Try.ntmps18
    go_wp2
    go_loopw [5] (fun i wr => ∃ k q : Nat, k ≤ xs.length ∧ i = .int .i64 k ∧ wr = w.drewN q ∧ Hid (∀ j (h1 : j < xs.length) (h2 : j < ys.length), j < k → xs[j] = ys[j])) (fun i _ => xs.length - (intOf i).toNat)
    case atStart => exact ⟨0, 0, Nat.zero_le _, rfl, rfl, fun j _ _ hj => absurd hj (Nat.not_lt_zero _)⟩
    case round =>
      obtain ⟨k, q, hk, rfl, rfl, HA⟩ := hrel
      by_cases hlt : k < xs.length
      · have hlt2 : k < ys.length := by omega
        have hix := H.at1 Try.underlying35 Try.sizeOf3 k hlt
        have hcell := H.int k hlt
        have hix2 := H2.at1 Try.underlying35 Try.sizeOf3 k hlt2
        have hcell2 := H2.int k hlt2
        by_cases he : xs[k] = ys[k]
        · have hne : (xs[k] != ys[k]) = false := by simp [he]
          have HA2 : Hid (∀ j (h1 : j < xs.length) (h2 : j < ys.length), j < k + 1 → xs[j] = ys[j]) := by
            intro j h1 h2 hj
            rcases Nat.lt_succ_iff_lt_or_eq.1 hj with h | rfl
            · exact HA.out j h1 h2 h
            · exact he
          clear he
          go_wp2
          go_quiet (fail)
          go_wp2
          go_roundw
          case rel => exact ⟨k + 1, _, by omega, by go_num, rfl, HA2⟩
          case measure => simp [intOf]; omega
        · have hne : (xs[k] != ys[k]) = true := by simp [he]
          have HN := Lib.hid (ne_of_at k hlt hlt2 he)
          clear he
          go_wp2
          go_quiet (fail)
          go_wp2
          go_ret
          exact ⟨by rw [decide_eq_false HN.out]; rfl, _, by first | rfl | exact World.drewN_drewN ..⟩
      · have HE : Hid (xs = ys) := eq_of_all HL.out fun j h1 h2 => HA.out j h1 h2 (by omega)
        go_wp2
        go_ret
        exact ⟨by rw [decide_eq_true HE.out]; rfl, _, by first | rfl | exact World.drewN_drewN ..⟩
  · have hb : ((xs.length : Int) != (ys.length : Int)) = true := by simp; omega
    have HN : Hid (xs ≠ ys) := fun h => hl (by rw [h])
    clear hl
    go_enter Try.func18, Try.ntmps18
    go_wp2
    go_ret
    exact ⟨by rw [decide_eq_false HN.out]; rfl, 0, rfl⟩
end Go.Proofs.Ytkpdimbblcmnaaa
