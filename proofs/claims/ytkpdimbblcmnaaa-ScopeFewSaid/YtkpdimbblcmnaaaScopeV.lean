/- The example of the document (scope), the bounds of the laws, Same at equal lists: the walks. -/
import Derived.Test.YtkpdimbblcmnaaaScopeU
import Derived.Test.YtkpdimbblcmnaaaMetAwk
import Derived.Deep.QuietTactic
import Derived.BigQuiet
import Derived.Laws.StructEq
namespace Go.Proofs.Ytkpdimbblcmnaaa
open Go.RowKit
set_option linter.unusedSimpArgs false
set_option linter.unusedVariables false

theorem neqIvl (a b c : Int) (w : World) : (binOp .neq 57 (.agg #[.int .i64 a, .int .i64 b, .int .i64 c]) (.agg #[.int .i64 a, .int .i64 b, .int .i64 c])).run Try.prog w = .ok (.bool false) w := by
  go_simp
set_option maxRecDepth 100000 in
set_option maxHeartbeats 1000000 in
theorem sameIv_any (l : List Ivl) (ao ao2 : Option Addr) (cap b o cap2 b2 o2 : Nat) (w : World) (H : Ivls w ao l cap b o) (H2 : Ivls w ao2 l cap2 b2 o2) :
    Calls Try.prog 25 #[.slice ao l.length cap, .slice ao2 l.length cap2] w fun e w' => e = .returned (.bool true) ∧ Keeps w w' := by
  have hcap := Sl.cap H
  have hle := Sl.le H
  have hcap2 := Sl.cap H2
  have hle2 := Sl.le H2
  have hneq := neqIvl
  go_enter Try.func25, Try.ntmps25
  go_wp2_with fail
  go_loopw [5] (fun vi wr => ∃ k q : Nat, k ≤ l.length ∧ vi = .int .i64 k ∧ wr = w.drewN q) (fun vi _ => l.length - (intOf vi).toNat)
  case atStart => exact ⟨0, 0, Nat.zero_le _, rfl, rfl⟩
  case round =>
    obtain ⟨k, q, hk, rfl, rfl⟩ := hrel
    by_cases hlt : k < l.length
    · have hix := Sl.at H Try.underlying47 Try.sizeOf57 k hlt
      have c0 := H.cell Ivl.len k hlt 0 _ rfl
      have c1 := H.cell Ivl.len k hlt 1 _ rfl
      have c2 := H.cell Ivl.len k hlt 2 _ rfl
      have hix2 := Sl.at H2 Try.underlying47 Try.sizeOf57 k hlt
      have d0 := H2.cell Ivl.len k hlt 0 _ rfl
      have d1 := H2.cell Ivl.len k hlt 1 _ rfl
      have d2 := H2.cell Ivl.len k hlt 2 _ rfl
      simp only [Nat.add_zero] at c0 d0
      go_wp2_with fail
      go_quiet (fail)
      go_wp2_with fail
      go_roundw
      case rel => exact ⟨k + 1, _, by omega, by go_num, rfl⟩
      case measure => simp [intOf]; omega
    · go_wp2
      go_ret
      exact ⟨rfl, (Keeps.refl w).drewN _⟩
def exS : List Hol := [⟨0, 1, 10, 3000⟩, ⟨0, 1, 20, 6000⟩, ⟨0, 1, 30, 7000⟩]
theorem exS_ok : ∀ x ∈ exS, x.Ok := by
  intro x hx
  simp only [exS, List.mem_cons, List.not_mem_nil, or_false] at hx
  rcases hx with rfl | rfl | rfl <;> (refine ⟨?_, ?_, ?_, ?_⟩ <;> (unfold I64; decide))
theorem exS_dates : IsDates exS [10, 20, 30] := ⟨by unfold Asc; decide, fun x => by
  simp only [exS, List.mem_cons, List.not_mem_nil, or_false]
  constructor
  · rintro (rfl | rfl | rfl)
    · exact ⟨_, .inl rfl, rfl⟩
    · exact ⟨_, .inr (.inl rfl), rfl⟩
    · exact ⟨_, .inr (.inr rfl), rfl⟩
  · rintro ⟨a, rfl | rfl | rfl, rfl⟩
    · exact .inl rfl
    · exact .inr (.inl rfl)
    · exact .inr (.inr rfl)⟩
theorem exS_parts : partR (ivR [false, false] exS [10, 20, 30] 1) 3 5 25 = ([⟨20, 25, 3⟩], 0) := by decide +kernel
theorem exSV (w : World) : Hols (w.alloc (.cells #[.int .i64 0, .int .i64 1, .int .i64 10, .int .i64 3000, .int .i64 0, .int .i64 1, .int .i64 20, .int .i64 6000, .int .i64 0, .int .i64 1, .int .i64 30, .int .i64 7000] 46)) (some ⟨w.heap.size, 0, none⟩) exS 3 w.heap.size 0 :=
  Sl.lit w 4 3 [.int .i64 0, .int .i64 1, .int .i64 10, .int .i64 3000, .int .i64 0, .int .i64 1, .int .i64 20, .int .i64 6000, .int .i64 0, .int .i64 1, .int .i64 30, .int .i64 7000] 46 rfl (by omega)
set_option maxRecDepth 100000 in
set_option maxHeartbeats 4000000 in
theorem sawake_any (w : World) : Calls Try.prog 21 #[] w fun e w' => e = .returned (.bool true) ∧ Keeps w w' := by
  have HJ : Hid (∀ W b, Sl W 1 (some ⟨b, 0, none⟩) 2 2 b 0 [.bool false, .bool false] → Calls Try.prog 15 #[.slice (some ⟨b, 0, none⟩) 2 2] W fun e w' => ∃ ao cap b o, e = .returned (.agg #[.string ⟨#[]⟩, .int .i64 0, .int .i64 0, .int .i64 0, .slice none 0 0, .int .i64 0, .int .i64 0, .int .i64 0, .int .i64 0, .int .i64 0, .int .i64 0, .int .i64 0, .int .i64 0, .int .i64 0, .int .i64 0, .int .i64 0, .int .i64 0, .int .i64 0, .int .i64 0, .int .i64 0, .slice ao 2 cap]) ∧ Ents w' ao [false, false] cap b o ∧ Keeps W w') := Lib.hid (fun W b h => joint_any [false, false] _ 2 b 0 W h (by decide))
  have HA : Hid (∀ W ao cap b o aol bl ol, Ents W ao [false, false] cap b o → Hols W aol exS 3 bl ol → Calls Try.prog 26 #[.agg #[.string ⟨#[]⟩, .int .i64 0, .int .i64 0, .int .i64 0, .slice none 0 0, .int .i64 0, .int .i64 0, .int .i64 0, .int .i64 0, .int .i64 0, .int .i64 0, .int .i64 0, .int .i64 0, .int .i64 0, .int .i64 0, .int .i64 0, .int .i64 0, .int .i64 0, .int .i64 0, .int .i64 0, .slice ao 2 cap], .slice aol 3 3, .int .i64 1, .int .i64 3, .int .i64 5, .int .i64 25] W fun e w' => ∃ ao cap b o, e = .returned (.tuple #[.slice ao 1 cap, .int .i64 0]) ∧ Ivls w' ao [⟨20, 25, 3⟩] cap b o ∧ Keeps W w') := Lib.hid (fun W ao cap b o aol bl ol h h2 => by
    have := parts_any [false, false] exS [10, 20, 30] exS_dates 1 3 5 25 ao cap b o aol 3 bl ol W h h2 (by decide) exS_ok
    rw [exS_parts] at this
    exact this)
  have hb0 := Sl.lit (w.alloc (.cells #[.int .i64 0, .int .i64 1, .int .i64 10, .int .i64 3000, .int .i64 0, .int .i64 1, .int .i64 20, .int .i64 6000, .int .i64 0, .int .i64 1, .int .i64 30, .int .i64 7000] 46)) 1 2 [.bool false, .bool false] 4 rfl (by omega)
  rw [World.size_alloc] at hb0
  have HB0 := Lib.hid hb0
  clear hb0
  go_enter Try.func21, Try.ntmps21
  go_wp2_with (first | (go_at_call 15; refine (HJ.out _ _ HB0.out).mono ?_; rintro e w1 ⟨ao1, cap1, b1, o1, rfl, hs1, hk1⟩; have HS1 := Lib.hid hs1; have HK1 := Lib.hid hk1; clear hs1 hk1) | (go_at_call 26; refine (HA.out _ _ _ _ _ _ _ _ HS1.out ((exSV w).keeps (((Keeps.refl _).alloc _).trans HK1.out))).mono ?_; rintro e w2 ⟨ao2, cap2, b2, o2, rfl, hs2, hk2⟩) | (go_at_call 25; refine (sameIv_any [⟨20, 25, 3⟩] _ _ _ b2 o2 _ w2.heap.size 0 _ (hs2.keeps ((Keeps.refl w2).alloc _)) (Sl.lit w2 3 1 [.int .i64 20, .int .i64 25, .int .i64 3] 57 rfl (by omega))).mono ?_; rintro e w3 ⟨rfl, hk3⟩))
  go_ret
  exact ⟨rfl, (((((Keeps.refl w).alloc _).alloc _).trans HK1.out).trans hk2).trans (((Keeps.refl w2).alloc _).trans hk3)⟩
theorem sfew_any (ao : Option Addr) (n cap : Nat) (aol : Option Addr) (m capl : Nat) (w : World) (f : Bool) (hf : (decide (n ≤ 12) && decide (m ≤ 20)) = f) :
    Calls Try.prog 22 #[.slice ao n cap, .slice aol m capl] w fun e w' => e = .returned (.bool f) ∧ w' = w := by
  subst hf
  by_cases h1 : n ≤ 12
  · have e1 : decide ((n : Int) ≤ 12) = true := decide_eq_true (by omega)
    by_cases h2 : m ≤ 20
    · have e2 : decide ((m : Int) ≤ 20) = true := decide_eq_true (by omega)
      go_enter Try.func22, Try.ntmps22
      go_wp2_with fail
      go_ret
      exact ⟨by simp [h1, h2], rfl⟩
    · have e2 : decide ((m : Int) ≤ 20) = false := decide_eq_false (by omega)
      go_enter Try.func22, Try.ntmps22
      go_wp2_with fail
      go_ret
      exact ⟨by simp [h1, h2], rfl⟩
  · have e1 : decide ((n : Int) ≤ 12) = false := decide_eq_false (by omega)
    go_enter Try.func22, Try.ntmps22
    go_wp2_with fail
    go_ret
    exact ⟨by simp [h1], rfl⟩
end Go.Proofs.Ytkpdimbblcmnaaa
