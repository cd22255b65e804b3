/- slices.Compare at ints and partner.Pairs$1: the walks. -/
import Derived.Test.YtfddhmhagijodaaPrEq
namespace Go.Proofs.Ytfddhmhagijodaa
open Go.RowKit Go.Shelf Go.Lib Go.Sort
set_option linter.unusedSimpArgs false
set_option linter.unusedVariables false

def cmpL : List Int → List Int → Int
  | a :: s, b :: t => if cmpI a b = 0 then cmpL s t else cmpI a b
  | _, _ => 0
set_option maxRecDepth 100000 in
set_option maxHeartbeats 1000000 in
theorem scmp_any (xs ys : List Int) (hl : ys.length = xs.length) (ao : Option Addr) (cap b o : Nat) (ao2 : Option Addr) (cap2 b2 o2 : Nat) (w : World) (H : Sl w 1 ao xs.length cap b o (xs.map (.int .i64))) (H2 : Sl w 1 ao2 ys.length cap2 b2 o2 (ys.map (.int .i64))) :
    Calls Try.prog 42 #[.slice ao xs.length cap, .slice ao2 ys.length cap2] w fun e w' => e = .returned (.int .i64 (cmpL xs ys)) ∧ w = w' := by
  have hcap := H.cap
  have hle := H.le
  have hcap2 := H2.cap
  have hle2 := H2.le
  have HL := Lib.hid hl
  clear hl
  go_enter Try.func42, Try.ntmps42
  go_wp2_with fail
  go_loopw [11] (fun vi wr => ∃ k : Nat, k ≤ xs.length ∧ vi = .int .i64 k ∧ wr = w ∧ Hid (cmpL xs ys = cmpL (xs.drop k) (ys.drop k))) (fun vi _ => xs.length - (intOf vi).toNat)
  case atStart => exact ⟨0, Nat.zero_le _, rfl, rfl, Lib.hid rfl⟩
  case round =>
    obtain ⟨k, hk, rfl, rfl, HZ⟩ := hrel
    by_cases hlt : k < xs.length
    · have hlt2 : k < ys.length := by rw [HL.out]; exact hlt
      have hix := H.at1 Try.underlying76 Try.sizeOf3 k hlt
      have ck := H.int k hlt
      have hix2 := H2.at1 Try.underlying76 Try.sizeOf3 k hlt2
      have dk := H2.int k hlt2
      obtain ⟨x, hx⟩ : ∃ x, xs[k] = x := ⟨_, rfl⟩
      obtain ⟨y, hy⟩ : ∃ y, ys[k] = y := ⟨_, rfl⟩
      rw [hx] at ck
      rw [hy] at dk
      obtain ⟨c, hc⟩ : ∃ c, cmpI x y = c := ⟨_, rfl⟩
      have HC : Hid (∀ W, Calls Try.prog 56 #[.int .i64 x, .int .i64 y] W fun e w' => e = .returned (.int .i64 c) ∧ W = w') := Lib.hid (fun W => by rw [← hc]; exact compare_any _ _ _)
      have hd : cmpL (xs.drop k) (ys.drop k) = if c = 0 then cmpL (xs.drop (k + 1)) (ys.drop (k + 1)) else c := by
        rw [List.drop_eq_getElem_cons hlt, List.drop_eq_getElem_cons hlt2, hx, hy]
        show (if cmpI x y = 0 then _ else _) = _
        rw [hc]
      have e1 : decide ((ys.length : Int) ≤ (k : Int)) = false := decide_eq_false (by omega)
      have e2 : decide (ys.length ≤ k) = false := decide_eq_false (by omega)
      by_cases h0 : c = 0
      · have e0 : (c != 0) = false := by simpa using h0
        have HZ2 : Hid (cmpL xs ys = cmpL (xs.drop (k + 1)) (ys.drop (k + 1))) := Lib.hid (by rw [HZ.out, hd, if_pos h0])
        clear h0 hx hy hc hd
        go_wp2_with (go_at_call 56; refine (HC.out _).mono ?_; rintro e w2 ⟨rfl, rfl⟩)
        go_roundw
        case rel => exact ⟨k + 1, by omega, by go_num, by first | rfl | trivial, HZ2⟩
        case measure => simp [intOf]; omega
      · have e0 : (c != 0) = true := by simpa using h0
        have HO : Hid (cmpL xs ys = c) := Lib.hid (by rw [HZ.out, hd, if_neg h0])
        clear h0 hx hy hc hd
        go_wp2_with (go_at_call 56; refine (HC.out _).mono ?_; rintro e w2 ⟨rfl, rfl⟩)
        go_ret
        exact ⟨by rw [HO.out]; rfl, rfl⟩
    · obtain rfl : k = xs.length := by omega
      have HO : Hid (cmpL xs ys = 0) := Lib.hid (by rw [HZ.out, List.drop_length]; rfl)
      have e1 : decide ((xs.length : Int) < (ys.length : Int)) = false := decide_eq_false (by have := HL.out; omega)
      have e2 : decide (xs.length < ys.length) = false := decide_eq_false (by have := HL.out; omega)
      go_wp2_with fail
      go_ret
      exact ⟨by rw [HO.out]; rfl, rfl⟩
/-- How two pairs are compared. -/
def cfP (x y : Pr) : Int := cmpL [x.a, x.b] [y.a, y.b]
theorem cfP_neg (x y : Pr) : cfP x y < 0 ↔ PrLt x y := by
  obtain ⟨a, b⟩ := x
  obtain ⟨c, d⟩ := y
  simp only [cfP, cmpL, PrLt]
  by_cases h : cmpI a c = 0
  · rw [if_pos h]
    have h2 := cmpI_zero.1 h
    by_cases h3 : cmpI b d = 0
    · rw [if_pos h3]
      have := cmpI_zero.1 h3
      omega
    · rw [if_neg h3, cmpI_neg]
      omega
  · rw [if_neg h, cmpI_neg]
    have : a ≠ c := fun e => h (cmpI_zero.2 e)
    omega
set_option maxHeartbeats 1000000 in
theorem pr1_any (x y : Pr) (w : World) :
    Calls Try.prog 41 #[.agg #[.int .i64 x.a, .int .i64 x.b], .agg #[.int .i64 y.a, .int .i64 y.b]] w
      fun e w' => e = .returned (.int .i64 (cfP x y)) ∧ GrownR w w' := by
  obtain ⟨z, hz⟩ : ∃ z, cfP x y = z := ⟨_, rfl⟩
  obtain ⟨W0, hW0⟩ : ∃ W0, (w.alloc (.cells #[.int .i64 x.a, .int .i64 x.b] 66)).alloc (.cells #[.int .i64 y.a, .int .i64 y.b] 66) = W0 := ⟨_, rfl⟩
  have HS : Hid (Sl W0.drew 1 (some ⟨w.heap.size, 0, none⟩) [x.a, x.b].length 2 w.heap.size 0 ([x.a, x.b].map (.int .i64)) ∧ Sl W0.drew 1 (some ⟨w.heap.size + 1, 0, none⟩) [y.a, y.b].length 2 (w.heap.size + 1) 0 ([y.a, y.b].map (.int .i64))) := Lib.hid (by
    subst hW0
    refine ⟨⟨rfl, Nat.le_refl _, (fun h => by cases h), by omega, fun _ => rfl, fun j u hu => ?_⟩, ⟨rfl, Nat.le_refl _, (fun h => by cases h), by omega, fun _ => rfl, fun j u hu => ?_⟩⟩
    · rcases j with _ | _ | j <;> simp at hu <;> subst hu <;> go_simp
    · rcases j with _ | _ | j <;> simp at hu <;> subst hu <;> go_simp)
  have HC : Hid (∀ W, GrownR W0.drew W → Calls Try.prog 42 #[.slice (some ⟨w.heap.size, 0, none⟩) 2 2, .slice (some ⟨w.heap.size + 1, 0, none⟩) 2 2] W fun e w' => e = .returned (.int .i64 z) ∧ W = w') := Lib.hid (fun W h => by
    rw [← hz]
    exact scmp_any [x.a, x.b] [y.a, y.b] rfl _ 2 _ _ _ 2 _ _ W (h.sl HS.out.1) (h.sl HS.out.2))
  have HG : Hid (GrownR w W0) := Lib.hid (by rw [← hW0]; exact (GrownR.alloc w _).trans (GrownR.alloc _ _))
  have HZ := Lib.hid hz
  clear hz
  go_enter Try.func41, Try.ntmps41
  go_wp2_with fail
  try rw [hW0]
  clear hW0
  refine wp_region_steps (A := ?_) GrownR [some 5, some 6, some 7, some 4] [[], [], [0, 1], [2]] 4 (by kernel_rfl) (by kernel_rfl) (by kernel_rfl) (by kernel_rfl) (by kernel_rfl) (by kernel_rfl) GrownR.refl (fun _ _ _ => GrownR.trans) ?_ ?_
  rotate_left
  · intro f; simp only [putL, Act.put, List.setIfInBounds_toArray, List.set_cons_zero, List.set_cons_succ, Nat.zero_add, Nat.reduceAdd]; exact rfl
  refine Steps.pure (v := ?_) GrownR.refl rfl (fun f w' hR hV => ⟨?_, ?_⟩) ?_
  rotate_left
  · (rfl)
  · (clear hV; go_simp; all_goals (try with_reducible rfl))
  refine Steps.pure (v := ?_) GrownR.refl rfl (fun f w' hR hV => ⟨?_, ?_⟩) ?_
  rotate_left
  · (rfl)
  · (clear hV; go_simp; all_goals (try with_reducible rfl))
  refine Steps.call (fun _ v => v = .int .i64 z) rfl (fun _ _ _ _ h => h) (fun f w' hR hV => ⟨?_, ?_⟩) ?_
  · (rfl)
  · (obtain ⟨h0, h1, _⟩ := hV; replace h0 : f 0 = _ := h0; replace h1 : f 1 = _ := h1; go_simp; go_at_call 42; refine (HC.out _ hR).mono ?_; rintro e w2 ⟨rfl, rfl⟩; exact StepPost.of _ rfl rfl (GrownR.refl _))
  refine Steps.pure (v := ?_) GrownR.refl rfl (fun f w' hR hV => ⟨?_, ?_⟩) ?_
  rotate_left
  · (rfl)
  · (obtain ⟨h2, _⟩ := hV; replace h2 : f 2 = _ := h2; go_simp; all_goals (try with_reducible rfl))
  all_goals (refine Steps.done [3] (by kernel_rfl) rfl (fun f wq hR hV => ?_); obtain ⟨h3, _⟩ := hV; replace h3 : f 3 = _ := h3; simp only [h3])
  go_wp2_with fail
  go_ret
  exact ⟨by rw [HZ.out]; rfl, HG.out.trans ((GrownR.drew _).trans hR)⟩
end Go.Proofs.Ytfddhmhagijodaa
