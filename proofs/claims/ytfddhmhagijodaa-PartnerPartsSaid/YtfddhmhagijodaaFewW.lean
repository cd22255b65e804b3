/- The reference's Few: the walk. -/
import Derived.Test.YtfddhmhagijodaaBkOpen
namespace Go.Proofs.Ytfddhmhagijodaa
open Go.RowKit
set_option linter.unusedSimpArgs false
set_option linter.unusedVariables false

def fewE (e : JV) : Bool := decide (e.x.lines.length ≤ 8)
def fewM (m : MV) : Bool := decide (wrap64 ((m.x.left.length : Int) + (m.x.right.length : Int)) ≤ 20)
def fewB (es : List JV) (ms : List MV) : Bool := es.all fewE && ms.all fewM && decide (es.length ≤ 40) && decide (ms.length ≤ 20)
theorem fewB_spec {es : List JV} {ms : List MV} (h : fewB es ms = true) : (∀ e ∈ es, e.x.lines.length ≤ 8) ∧ es.length ≤ 40 ∧ ms.length ≤ 20 ∧ ∀ m ∈ ms, wrap64 ((m.x.left.length : Int) + (m.x.right.length : Int)) ≤ 20 := by
  simp only [fewB, Bool.and_eq_true, List.all_eq_true, decide_eq_true_eq, fewE, fewM] at h
  exact ⟨h.1.1.1, h.1.2, h.2, h.1.1.2⟩
/-- What lies in the box of books. -/
structure InBox (w : World) (B : Nat) (bv : List Value) (es : List JV) (ms : List MV) : Prop where
  bks : Bks w bv es ms
  rng : w.rangeAt B 0 bv
theorem InBox.new {w : World} {bv : List Value} {es : List JV} {ms : List MV} (h : Bks w bv es ms) (ty : TypeId) : InBox (w.alloc (.cells bv.toArray ty)) w.heap.size bv es ms :=
  ⟨h.keeps ((Keeps.refl w).alloc _), box_range w bv ty⟩
theorem InBox.keeps {w w' : World} {B : Nat} {bv : List Value} {es : List JV} {ms : List MV} (h : InBox w B bv es ms) (k : Keeps w w') : InBox w' B bv es ms := ⟨h.bks.keeps k, range_keeps h.rng k⟩
set_option maxRecDepth 100000 in
set_option maxHeartbeats 2000000 in
theorem few_any (bv : List Value) (es : List JV) (ms : List MV) (w : World) (H : Bks w bv es ms) :
    Calls Try.prog 11 #[.agg bv.toArray] w fun e w' => e = .returned (.bool (fewB es ms)) ∧ Keeps w w' := by
  obtain ⟨ao1, cap1, b1, o1, he1, hj⟩ := H.ents
  obtain ⟨ao2, cap2, b2, o2, he2, hm⟩ := H.mts
  have HJ := Lib.hid hj
  have HM := Lib.hid hm
  have h1 := Sl.le hj.row
  have h2 := Sl.cap hj.row
  have h3 := Sl.le hm.row
  have h4 := Sl.cap hm.row
  have hrg := box_range w bv 36
  have c21 := hrg 21 _ he1
  have c24 := hrg 24 _ he2
  simp only [Nat.zero_add] at c21 c24
  have hk0 : Keeps w (w.alloc (.cells bv.toArray 36)) := (Keeps.refl w).alloc _
  obtain ⟨W1, hW1⟩ : ∃ W1, w.alloc (.cells bv.toArray 36) = W1 := ⟨_, rfl⟩
  rw [hW1] at c21 c24 hk0
  have HK0 := Lib.hid hk0
  clear hj hm hrg H hk0
  go_enter Try.func11, Try.ntmps11
  go_wp2_with fail
  try rw [hW1]
  clear hW1
  go_loopw [3] (fun vi wr => ∃ k : Nat, k ≤ es.length ∧ vi = .int .i64 k ∧ wr = W1 ∧ Hid (∀ e ∈ es.take k, fewE e = true)) (fun vi _ => es.length - (intOf vi).toNat)
  case atStart => exact ⟨0, Nat.zero_le _, rfl, rfl, Lib.hid (by simp)⟩
  case round =>
    obtain ⟨k, hk, rfl, rfl, HZ⟩ := hrel
    by_cases hlt : k < es.length
    · have hr := HJ.out.row.keeps HK0.out
      have hix := Sl.at hr Try.underlying30 Try.sizeOf50 k hlt
      obtain ⟨y, hy⟩ : ∃ y, es[k] = y := ⟨_, rfl⟩
      have c6 := hr.cell JV.len k hlt 6 (.slice y.a y.x.lines.length y.c) (by rw [hy]; rfl)
      have hf : fewE es[k] = decide (y.x.lines.length ≤ 8) := by rw [hy]; rfl
      by_cases h8 : y.x.lines.length ≤ 8
      · have e8 : decide ((8 : Int) < (y.x.lines.length : Int)) = false := by simp; omega
        have HZ2 : Hid (∀ e ∈ es.take (k + 1), fewE e = true) := Lib.hid (by
          rw [take_snoc _ k hlt]
          intro q hq
          rcases List.mem_append.1 hq with h | h
          · exact HZ.out q h
          · rw [List.mem_singleton] at h; rw [h, hf]; simpa using h8)
        clear hr hy hf h8
        go_wp2_with fail
        go_roundw
        case rel => exact ⟨k + 1, by omega, by go_num, by first | rfl | trivial, HZ2⟩
        case measure => simp [intOf]; omega
      · have e8 : decide ((8 : Int) < (y.x.lines.length : Int)) = true := by simp; omega
        have HF : Hid (fewB es ms = false) := Lib.hid (by
          have : es.all fewE = false := by rw [List.all_eq_false]; exact ⟨es[k], List.getElem_mem .., by rw [hf]; simpa using h8⟩
          rw [fewB, this]; rfl)
        clear hr hy hf h8
        go_wp2_with fail
        go_ret
        exact ⟨by rw [HF.out]; rfl, HK0.out⟩
    · obtain rfl : k = es.length := by omega
      have HZA : Hid (es.all fewE = true) := Lib.hid (by
        rw [List.all_eq_true]
        have := HZ.out
        rwa [List.take_length] at this)
      clear HZ
      obtain ⟨wo, rfl⟩ : ∃ wo : World, wo = wr := ⟨_, rfl⟩
      go_wp2_with fail
      go_loopw [4] (fun vi w2 => ∃ k q : Nat, k ≤ ms.length ∧ vi = .int .i64 k ∧ w2 = wo.drewN q ∧ Hid (∀ e ∈ ms.take k, fewM e = true)) (fun vi _ => ms.length - (intOf vi).toNat)
      case atStart => exact ⟨0, 0, Nat.zero_le _, rfl, rfl, Lib.hid (by simp)⟩
      case round =>
        obtain ⟨k, q, hk, rfl, rfl, HZ⟩ := hrel
        by_cases hlt : k < ms.length
        · have hr := HM.out.row.keeps HK0.out
          have hix := Sl.at hr Try.underlying33 Try.sizeOf70 k hlt
          obtain ⟨y, hy⟩ : ∃ y, ms[k] = y := ⟨_, rfl⟩
          have d1 := hr.cell MV.len k hlt 1 (.slice y.al y.x.left.length y.cl) (by rw [hy]; rfl)
          have d2 := hr.cell MV.len k hlt 2 (.slice y.ar y.x.right.length y.cr) (by rw [hy]; rfl)
          have hf : fewM ms[k] = decide (wrap64 ((y.x.left.length : Int) + (y.x.right.length : Int)) ≤ 20) := by rw [hy]; rfl
          by_cases h8 : wrap64 ((y.x.left.length : Int) + (y.x.right.length : Int)) ≤ 20
          · have e8 : decide ((20 : Int) < wrap64 ((y.x.left.length : Int) + (y.x.right.length : Int))) = false := by simpa using h8
            have HZ2 : Hid (∀ e ∈ ms.take (k + 1), fewM e = true) := Lib.hid (by
              rw [take_snoc _ k hlt]
              intro q hq
              rcases List.mem_append.1 hq with h | h
              · exact HZ.out q h
              · rw [List.mem_singleton] at h; rw [h, hf]; simpa using h8)
            clear hr hy hf h8
            go_wp2_with fail
            go_quiet (fail)
            go_wp2_with fail
            go_roundw
            case rel => exact ⟨k + 1, _, by omega, by go_num, rfl, HZ2⟩
            case measure => simp [intOf]; omega
          · have e8 : decide ((20 : Int) < wrap64 ((y.x.left.length : Int) + (y.x.right.length : Int))) = true := by simpa using h8
            have HF : Hid (fewB es ms = false) := Lib.hid (by
              have : ms.all fewM = false := by rw [List.all_eq_false]; exact ⟨ms[k], List.getElem_mem .., by rw [hf]; simpa using h8⟩
              rw [fewB, this, Bool.and_false]; rfl)
            clear hr hy hf h8
            go_wp2_with fail
            go_quiet (fail)
            go_wp2_with fail
            go_ret
            exact ⟨by rw [HF.out]; rfl, (HK0.out.drewN _).drewN _⟩
        · obtain rfl : k = ms.length := by omega
          have HF : Hid (fewB es ms = (decide (es.length ≤ 40) && decide (ms.length ≤ 20))) := Lib.hid (by
            have : ms.all fewM = true := by
              rw [List.all_eq_true]
              have := HZ.out
              rwa [List.take_length] at this
            rw [fewB, this, HZA.out]; rfl)
          by_cases g1 : es.length ≤ 40
          · have e1 : decide ((es.length : Int) ≤ 40) = true := by simp; omega
            by_cases g2 : ms.length ≤ 20
            · have e2 : decide ((ms.length : Int) ≤ 20) = true := by simp; omega
              have HG : Hid (fewB es ms = true) := Lib.hid (by rw [HF.out]; simp [g1, g2])
              go_wp2_with fail
              go_ret
              exact ⟨by rw [HG.out]; rfl, HK0.out.drewN _⟩
            · have e2 : decide ((ms.length : Int) ≤ 20) = false := by simp; omega
              have HG : Hid (fewB es ms = false) := Lib.hid (by rw [HF.out]; simp [g2])
              go_wp2_with fail
              go_ret
              exact ⟨by rw [HG.out]; rfl, HK0.out.drewN _⟩
          · have e1 : decide ((es.length : Int) ≤ 40) = false := by simp; omega
            have HG : Hid (fewB es ms = false) := Lib.hid (by rw [HF.out]; simp [g1])
            go_wp2_with fail
            go_ret
            exact ⟨by rw [HG.out]; rfl, HK0.out.drewN _⟩
end Go.Proofs.Ytfddhmhagijodaa
