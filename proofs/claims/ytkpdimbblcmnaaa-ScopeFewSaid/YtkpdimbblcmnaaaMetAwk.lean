/- The example of the document (method), the bounds of the laws: the walks. -/
import Derived.Test.YtkpdimbblcmnaaaMetJ
import Derived.Test.YtkpdimbblcmnaaaMetR
import Derived.Test.YtkpdimbblcmnaaaCodes
namespace Go.Proofs.Ytkpdimbblcmnaaa
open Go.RowKit
set_option linter.unusedSimpArgs false
set_option linter.unusedVariables false

def exM : List Hol := [⟨0, 1, 0, 6000⟩, ⟨0, 2, 0, 2500⟩, ⟨0, 3, 0, 1999⟩]
theorem exM_ok : ∀ x ∈ exM, x.Ok := by
  intro x hx
  simp only [exM, List.mem_cons, List.not_mem_nil, or_false] at hx
  rcases hx with rfl | rfl | rfl <;> (refine ⟨?_, ?_, ?_, ?_⟩ <;> (unfold I64; decide))
theorem exM_all : methR [false, false, true, false] exM 0 = ([3, 3, 2, 0], 0) := by decide +kernel
theorem exMV (w : World) : Hols (w.alloc (.cells #[.int .i64 0, .int .i64 1, .int .i64 0, .int .i64 6000, .int .i64 0, .int .i64 2, .int .i64 0, .int .i64 2500, .int .i64 0, .int .i64 3, .int .i64 0, .int .i64 1999] 46)) (some ⟨w.heap.size, 0, none⟩) exM 3 w.heap.size 0 :=
  Sl.lit w 4 3 [.int .i64 0, .int .i64 1, .int .i64 0, .int .i64 6000, .int .i64 0, .int .i64 2, .int .i64 0, .int .i64 2500, .int .i64 0, .int .i64 3, .int .i64 0, .int .i64 1999] 46 rfl (by omega)
theorem codes_eq (xs : List Int) (ao ao2 : Option Addr) (cap b o cap2 b2 o2 : Nat) (w : World) (h : Sl w 1 ao xs.length cap b o (xs.map (.int .i64))) (h2 : Sl w 1 ao2 xs.length cap2 b2 o2 (xs.map (.int .i64))) :
    Calls Try.prog 18 #[.slice ao xs.length cap, .slice ao2 xs.length cap2] w fun e w' => e = .returned (.bool true) ∧ Keeps w w' :=
  (codes_any xs xs ao ao2 cap b o cap2 b2 o2 w h h2).mono fun e w' ⟨h1, q, h2⟩ => ⟨by simpa using h1, by rw [h2]; exact (Keeps.refl w).drewN q⟩
set_option maxRecDepth 100000 in
set_option maxHeartbeats 4000000 in
theorem mawake_any (w : World) : Calls Try.prog 13 #[] w fun e w' => e = .returned (.bool true) ∧ Keeps w w' := by
  have HJ : Hid (∀ W b, Sl W 1 (some ⟨b, 0, none⟩) 4 4 b 0 [.bool false, .bool false, .bool true, .bool false] → Calls Try.prog 15 #[.slice (some ⟨b, 0, none⟩) 4 4] W fun e w' => ∃ ao cap b o, e = .returned (.agg #[.string ⟨#[]⟩, .int .i64 0, .int .i64 0, .int .i64 0, .slice none 0 0, .int .i64 0, .int .i64 0, .int .i64 0, .int .i64 0, .int .i64 0, .int .i64 0, .int .i64 0, .int .i64 0, .int .i64 0, .int .i64 0, .int .i64 0, .int .i64 0, .int .i64 0, .int .i64 0, .int .i64 0, .slice ao 4 cap]) ∧ Ents w' ao [false, false, true, false] cap b o ∧ Keeps W w') := Lib.hid (fun W b h => joint_any [false, false, true, false] _ 4 b 0 W h (by decide))
  have HA : Hid (∀ W ao cap b o aol bl ol, Ents W ao [false, false, true, false] cap b o → Hols W aol exM 3 bl ol → Calls Try.prog 16 #[.agg #[.string ⟨#[]⟩, .int .i64 0, .int .i64 0, .int .i64 0, .slice none 0 0, .int .i64 0, .int .i64 0, .int .i64 0, .int .i64 0, .int .i64 0, .int .i64 0, .int .i64 0, .int .i64 0, .int .i64 0, .int .i64 0, .int .i64 0, .int .i64 0, .int .i64 0, .int .i64 0, .int .i64 0, .slice ao 4 cap], .slice aol 3 3, .int .i64 0] W fun e w' => ∃ ao cap b o, e = .returned (.tuple #[.slice ao 4 cap, .int .i64 0]) ∧ Sl w' 1 ao 4 cap b o [.int .i64 3, .int .i64 3, .int .i64 2, .int .i64 0] ∧ Keeps W w') := Lib.hid (fun W ao cap b o aol bl ol h h2 => by
    have := all_any [false, false, true, false] exM 0 ao cap b o aol 3 bl ol W h h2 (by decide) exM_ok
    rw [exM_all] at this
    exact this)
  have hb0 := Sl.lit (w.alloc (.cells #[.int .i64 0, .int .i64 1, .int .i64 0, .int .i64 6000, .int .i64 0, .int .i64 2, .int .i64 0, .int .i64 2500, .int .i64 0, .int .i64 3, .int .i64 0, .int .i64 1999] 46)) 1 4 [.bool false, .bool false, .bool true, .bool false] 4 rfl (by omega)
  rw [World.size_alloc] at hb0
  have HB0 := Lib.hid hb0
  clear hb0
  go_enter Try.func13, Try.ntmps13
  go_wp2_with (first | (go_at_call 15; refine (HJ.out _ _ HB0.out).mono ?_; rintro e w1 ⟨ao1, cap1, b1, o1, rfl, hs1, hk1⟩; have HS1 := Lib.hid hs1; have HK1 := Lib.hid hk1; clear hs1 hk1) | (go_at_call 16; refine (HA.out _ _ _ _ _ _ _ _ HS1.out ((exMV w).keeps (((Keeps.refl _).alloc _).trans HK1.out))).mono ?_; rintro e w2 ⟨ao2, cap2, b2, o2, rfl, hs2, hk2⟩) | (go_at_call 18; refine (codes_eq [3, 3, 2, 0] _ _ _ b2 o2 _ w2.heap.size 0 _ (hs2.keeps ((Keeps.refl w2).alloc _)) (Sl.lit w2 1 4 [.int .i64 3, .int .i64 3, .int .i64 2, .int .i64 0] 3 rfl (by omega))).mono ?_; rintro e w3 ⟨rfl, hk3⟩))
  go_ret
  exact ⟨rfl, (((((Keeps.refl w).alloc _).alloc _).trans HK1.out).trans hk2).trans (((Keeps.refl w2).alloc _).trans hk3)⟩
theorem mfew_any (ao : Option Addr) (n cap : Nat) (aol : Option Addr) (m capl : Nat) (w : World) (f : Bool) (hf : (decide (n ≤ 20) && decide (m ≤ 30)) = f) :
    Calls Try.prog 14 #[.slice ao n cap, .slice aol m capl] w fun e w' => e = .returned (.bool f) ∧ w' = w := by
  subst hf
  by_cases h1 : n ≤ 20
  · have e1 : decide ((n : Int) ≤ 20) = true := decide_eq_true (by omega)
    by_cases h2 : m ≤ 30
    · have e2 : decide ((m : Int) ≤ 30) = true := decide_eq_true (by omega)
      go_enter Try.func14, Try.ntmps14
      go_wp2_with fail
      go_ret
      exact ⟨by simp [h1, h2], rfl⟩
    · have e2 : decide ((m : Int) ≤ 30) = false := decide_eq_false (by omega)
      go_enter Try.func14, Try.ntmps14
      go_wp2_with fail
      go_ret
      exact ⟨by simp [h1, h2], rfl⟩
  · have e1 : decide ((n : Int) ≤ 20) = false := decide_eq_false (by omega)
    go_enter Try.func14, Try.ntmps14
    go_wp2_with fail
    go_ret
    exact ⟨by simp [h1], rfl⟩
theorem there_new (w : World) (t : TypeId) (vs : List Value) : (w.alloc (.cells vs.toArray t)).there w.heap.size 0 vs.length := fun j hj => by
  rw [Nat.zero_add]
  exact ⟨by rw [(RowB.new w t vs).cell j _ (List.getElem?_eq_getElem hj)]; rfl, (RowB.new w t vs).frozen j⟩
theorem rangeAt_keeps {w w' : World} {b o : Nat} {cs : List Value} (h : w.rangeAt b o cs) (k : Keeps w w') : w'.rangeAt b o cs := fun j v hv => k.cell (h j v hv)
end Go.Proofs.Ytkpdimbblcmnaaa
