/- The example of the document (holdings): the walk of 'awake'. -/
import Derived.Test.YtmlpdpacefnngaaHolSetW
import Derived.Test.YtmlpdpacefnngaaHolRVal
import Derived.Test.YtmlpdpacefnngaaHolRAt
namespace Go.Proofs.Ytmlpdpacefnngaa
open Go.RowKit
set_option linter.unusedSimpArgs false
set_option linter.unusedVariables false

def exH : List Hol := [⟨0, 1, 10, 6000⟩, ⟨0, 1, 20, 2000⟩]
theorem exH_ok : ∀ x ∈ exH, x.Ok := by
  intro x hx
  simp only [exH, List.mem_cons, List.not_mem_nil, or_false] at hx
  rcases hx with rfl | rfl <;> (refine ⟨?_, ?_, ?_, ?_⟩ <;> (unfold I64; decide))
theorem exH_set : setH 3 exH ⟨2, 1, 15, 5000⟩ = ([], 18) := setH_4 (by decide +kernel) (by decide +kernel) (by decide +kernel) (by decide +kernel)
theorem exH_19 : atH exH 0 1 19 = 6000 := by decide +kernel
theorem exH_20 : atH exH 0 1 20 = 2000 := by decide +kernel
theorem exHV (w : World) : Hols (w.alloc (.cells #[.int .i64 0, .int .i64 1, .int .i64 10, .int .i64 6000, .int .i64 0, .int .i64 1, .int .i64 20, .int .i64 2000] 27)) (some ⟨w.heap.size, 0, none⟩) exH 2 w.heap.size 0 :=
  Sl.lit w 4 2 [.int .i64 0, .int .i64 1, .int .i64 10, .int .i64 6000, .int .i64 0, .int .i64 1, .int .i64 20, .int .i64 2000] 27 rfl (by omega)
set_option maxHeartbeats 1000000 in
theorem hexample_any (w : World) : Calls Try.prog 40 #[] w fun e w' => ∃ ao b o, e = .returned (.slice ao 2 2) ∧ Hols w' ao exH 2 b o ∧ Keeps w w' := by
  go_enter Try.func40, Try.ntmps40
  go_wp2_with fail
  go_ret
  exact ⟨_, _, _, rfl, exHV w, (Keeps.refl w).alloc _⟩
set_option maxHeartbeats 1000000 in
theorem hawake_any (w : World) : Calls Try.prog 15 #[] w fun e w' => e = .returned (.bool true) ∧ Keeps w w' := by
  have HA : Hid (∀ W ao b o, Hols W ao exH 2 b o → Calls Try.prog 18 #[.slice ao 2 2, .int .i64 0, .int .i64 1, .int .i64 19] W fun e w' => e = .returned (.int .i64 6000) ∧ Keeps W w') := Lib.hid (fun W ao b o h => by have := hat_any ao exH 2 b o 0 1 19 W h; rw [exH_19] at this; exact this)
  have HB : Hid (∀ W ao b o, Hols W ao exH 2 b o → Calls Try.prog 18 #[.slice ao 2 2, .int .i64 0, .int .i64 1, .int .i64 20] W fun e w' => e = .returned (.int .i64 2000) ∧ Keeps W w') := Lib.hid (fun W ao b o h => by have := hat_any ao exH 2 b o 0 1 20 W h; rw [exH_20] at this; exact this)
  have HS : Hid (∀ W ao b o, Hols W ao exH 2 b o → Calls Try.prog 25 #[.int .i64 3, .slice ao 2 2, .agg #[.int .i64 2, .int .i64 1, .int .i64 15, .int .i64 5000]] W fun e w' => ∃ ao1 cap1, e = .returned (.tuple #[.slice ao1 0 cap1, .int .i64 18]) ∧ Keeps W w') := Lib.hid (fun W ao b o h => by
    have h1 : (⟨2, 1, 15, 5000⟩ : Hol).Ok := by refine ⟨?_, ?_, ?_, ?_⟩ <;> (unfold I64; decide)
    refine (set_any 3 ao exH 2 b o ⟨2, 1, 15, 5000⟩ W h (by decide) exH_ok h1).mono fun e w' hh => ?_
    rw [exH_set] at hh
    obtain ⟨ao1, cap1, b1, o1, rfl, hs1, hk1⟩ := hh
    exact ⟨ao1, cap1, rfl, hk1⟩)
  go_enter Try.func15, Try.ntmps15
  go_wp2_with (first | (go_at_call 40; refine (hexample_any _).mono ?_; rintro e w1 ⟨ao1, b1, o1, rfl, hs1, hk1⟩) | (go_at_call 25; (with_reducible refine (HS.out _ _ _ _ hs1).mono ?_); rintro e w2 ⟨ao2, cap2, rfl, hk2⟩; have hs2 := hs1.keeps hk2) | (go_at_call 18; (with_reducible refine (HA.out _ _ _ _ hs2).mono ?_); rintro e w3 ⟨rfl, hk3⟩; have hs3 := hs2.keeps hk3) | (go_at_call 18; (with_reducible refine (HB.out _ _ _ _ hs3).mono ?_); rintro e w4 ⟨rfl, hk4⟩))
  go_ret
  exact ⟨rfl, ((hk1.trans hk2).trans hk3).trans hk4⟩
end Go.Proofs.Ytmlpdpacefnngaa
