/- partner.matched: the walk. -/
import Derived.Test.YtfddhmhagijodaaBkOpen
namespace Go.Proofs.Ytfddhmhagijodaa
open Go.RowKit Go.Maps
set_option linter.unusedSimpArgs false
set_option linter.unusedVariables false

/-- The references in matches. -/
def refsOf (ms : List MV) : List Rf := ms.flatMap (fun m => m.x.left ++ m.x.right)
def memB (L : List Rf) (r : Rf) : Bool := decide (r ∈ L)
def mref (ms : List MV) (r : Rf) : Bool := memB (refsOf ms) r
theorem memB_snoc (L : List Rf) (r : Rf) : setM (memB (L ++ [r])) r = some (.bool true) ∧ ∀ d, d ≠ r → setM (memB (L ++ [r])) d = setM (memB L) d := by
  refine ⟨?_, fun d hd => ?_⟩
  · unfold setM memB
    rw [if_pos (by simp)]
  · unfold setM memB
    have : (d ∈ L ++ [r]) ↔ d ∈ L := by simp [hd]
    simp only [this]
set_option maxRecDepth 100000 in
set_option maxHeartbeats 4000000 in
theorem matched_any (bv : List Value) (es : List JV) (ms : List MV) (w : World) (H : Bks w bv es ms) (hn : ms.length ≤ 20) (hl : ∀ m ∈ ms, m.x.left.length + m.x.right.length ≤ 20) :
    Calls Try.prog 32 #[.agg bv.toArray] w fun e w' => ∃ mb, e = .returned (.map (some mb)) ∧ mb < w'.heap.size ∧ VMap refK w' mb 400 (setM (mref ms)) ∧ Keeps w w' := by
  obtain ⟨ao, cap, b, o, he, hm⟩ := H.mts
  have hbl := H.len
  have HM := Lib.hid hm
  have HO := Lib.hid H.mok
  have HL := Lib.hid hl
  have h1 := Sl.le hm.row
  have h2 := Sl.cap hm.row
  have hmm := @run_makeMap Try.prog
  have hrg := range_keeps (box_range w bv 36) ((Keeps.refl _).alloc (.map #[] 0))
  have c24 := hrg 24 _ he
  simp only [Nat.zero_add] at c24
  have hk0 : Keeps w ((w.alloc (.cells bv.toArray 36)).alloc (.map #[] 0)) := ((Keeps.refl w).alloc _).alloc _
  have hm0 : VMap refK ((w.alloc (.cells bv.toArray 36)).alloc (.map #[] 0)) (w.heap.size + 1) 0 (setM (memB [])) := by
    have := VMap.made refK (w.alloc (.cells bv.toArray 36))
    simp only [World.size_alloc] at this
    exact this
  have hz0 : ((w.alloc (.cells bv.toArray 36)).alloc (.map #[] 0)).heap.size = w.heap.size + 2 := by simp
  have HK0 := Lib.hid hk0
  have HM0 := Lib.hid hm0
  clear hm hrg H hk0 hm0 hl
  go_enter Try.func32, Try.ntmps32
  go_wp2_with fail
  go_loopw [14] (fun vi wr => ∃ k : Nat, k ≤ ms.length ∧ vi = .int .i64 k ∧ Hid (Keeps w wr ∧ w.heap.size + 2 ≤ wr.heap.size ∧ VMap refK wr (w.heap.size + 1) (k * 20) (setM (memB (refsOf (ms.take k)))))) (fun vi _ => ms.length - (intOf vi).toNat)
  case atStart => exact ⟨0, Nat.zero_le _, rfl, Lib.hid ⟨HK0.out, by rw [hz0]; exact Nat.le_refl _, HM0.out⟩⟩
  case round =>
    obtain ⟨k, hk, rfl, HW⟩ := hrel
    by_cases hlt : k < ms.length
    · obtain ⟨wo, rfl⟩ : ∃ wo : World, wo = wr := ⟨_, rfl⟩
      have hr := HM.out.row.keeps HW.out.1
      have hix := Sl.at hr Try.underlying33 Try.sizeOf70 k hlt
      obtain ⟨m, hmk⟩ : ∃ m, ms[k] = m := ⟨_, rfl⟩
      have c0 := hr.cell MV.len k hlt 0 (.int .i64 m.x.id) (by rw [hmk]; rfl)
      have c1 := hr.cell MV.len k hlt 1 (.slice m.al m.x.left.length m.cl) (by rw [hmk]; rfl)
      have c2 := hr.cell MV.len k hlt 2 (.slice m.ar m.x.right.length m.cr) (by rw [hmk]; rfl)
      have c3 := hr.cell MV.len k hlt 3 (.int .i64 m.x.state) (by rw [hmk]; rfl)
      rw [Nat.add_zero] at c0
      have hmem : m ∈ ms := by rw [← hmk]; exact List.getElem_mem ..
      have hsl := HM.out.left m hmem
      have hsr := HM.out.right m hmem
      have h20 := HL.out m hmem
      have hll := Sl.le hsl
      have hlc := Sl.cap hsl
      have hrl := Sl.le hsr
      have hrc := Sl.cap hsr
      have HSL := Lib.hid hsl
      have HSR := Lib.hid hsr
      have HOL := Lib.hid (HO.out m hmem).1
      have HOR := Lib.hid (HO.out m hmem).2
      have hwo := HW.out.2.1
      have HT2 : Hid (refsOf (ms.take (k + 1)) = refsOf (ms.take k) ++ m.x.left ++ m.x.right) := Lib.hid (by rw [take_snoc _ k hlt, hmk]; unfold refsOf; rw [List.flatMap_append]; simp)
      have HMP : Hid (VMap refK (wo.alloc (.cells #[.int .i64 m.x.id, .slice m.al m.x.left.length m.cl, .slice m.ar m.x.right.length m.cr, .int .i64 m.x.state] 70)) (w.heap.size + 1) (k * 20) (setM (memB (refsOf (ms.take k))))) := Lib.hid (HW.out.2.2.alloc _)
      have HKP : Hid (Keeps w (wo.alloc (.cells #[.int .i64 m.x.id, .slice m.al m.x.left.length m.cl, .slice m.ar m.x.right.length m.cr, .int .i64 m.x.state] 70))) := Lib.hid (HW.out.1.alloc _)
      have HCP : Hid ((wo.alloc (.cells #[.int .i64 m.x.id, .slice m.al m.x.left.length m.cl, .slice m.ar m.x.right.length m.cr, .int .i64 m.x.state] 70)).cell? ⟨wo.heap.size, 2, none⟩ = some (.slice m.ar m.x.right.length m.cr)) := Lib.hid (by go_simp)
      clear hr hmk hsl hsr hmem
      have HS := HSL
      have HOS := HOL
      go_wp2_with fail
      go_loopw [21] (fun vi w3 => ∃ j : Nat, j ≤ m.x.left.length ∧ vi = .int .i64 j ∧ Hid (Keeps w w3 ∧ wo.heap.size + 1 ≤ w3.heap.size ∧ w3.cell? ⟨wo.heap.size, 2, none⟩ = some (.slice m.ar m.x.right.length m.cr) ∧ VMap refK w3 (w.heap.size + 1) (k * 20 + j) (setM (memB (refsOf (ms.take k) ++ m.x.left.take j))))) (fun vi _ => m.x.left.length - (intOf vi).toNat)
      case atStart => exact ⟨0, Nat.zero_le _, rfl, Lib.hid ⟨HKP.out, by simp, HCP.out, by rw [List.take_zero, List.append_nil, Nat.add_zero]; exact HMP.out⟩⟩
      case round =>
        obtain ⟨j, hj, rfl, HX⟩ := hrel
        by_cases hjl : j < m.x.left.length
        · have hr2 := HS.out.keeps HX.out.1
          have hix2 := Sl.at hr2 Try.underlying45 Try.sizeOf59 j hjl
          obtain ⟨r, hrj⟩ : ∃ r, m.x.left[j] = r := ⟨_, rfl⟩
          have d0 := hr2.cell Rf.len j hjl 0 (.int .i64 r.e) (by rw [hrj]; rfl)
          have d1 := hr2.cell Rf.len j hjl 1 (.int .i64 r.l) (by rw [hrj]; rfl)
          rw [Nat.add_zero] at d0
          have HROK : Hid r.Ok := Lib.hid (by rw [← hrj]; exact HOS.out _ (List.getElem_mem ..))
          have HT : Hid (refsOf (ms.take k) ++ m.x.left.take (j + 1) = (refsOf (ms.take k) ++ m.x.left.take j) ++ [r]) := Lib.hid (by rw [take_snoc _ j hjl, hrj]; simp only [List.append_assoc])
          have hml := HX.out.2.2.2.lt
          clear hr2 hrj
          go_wp2_with ((refine wpList_vstore (K := refK) rfl _ _ _ 85 rfl Try.underlying85 (w.heap.size + 1) (k * 20 + j) rfl (HX.out.2.2.2.alloc _) (by unfold maxLen; omega) r HROK.out rfl (.bool true) rfl (setM (memB (refsOf (ms.take k) ++ m.x.left.take (j + 1)))) (by rw [HT.out]; exact (memB_snoc _ r).1) (fun d _ hd => by rw [HT.out]; exact (memB_snoc _ r).2 d hd) ?_); intro w4 hm4 hg4; have HY : Hid (Keeps w w4 ∧ wo.heap.size + 1 ≤ w4.heap.size ∧ w4.cell? ⟨wo.heap.size, 2, none⟩ = some (.slice m.ar m.x.right.length m.cr) ∧ VMap refK w4 (w.heap.size + 1) (k * 20 + j + 1) (setM (memB (refsOf (ms.take k) ++ m.x.left.take (j + 1))))) := Lib.hid ⟨Below.grown (HX.out.1.alloc _) hg4 (HX.out.1.alloc _).size (fun q hq => by cases hq; omega), Nat.le_trans (Nat.le_trans HX.out.2.1 (by simp)) hg4.size, hg4.cell (Keeps.cell ((Keeps.refl _).alloc _) HX.out.2.2.1) (fun e => by have := Option.some.inj e; simp only at this; omega), hm4⟩; clear hm4 hg4)
          go_roundw
          case rel => exact ⟨j + 1, by omega, by go_num, HY⟩
          case measure => simp [intOf]; omega
        · obtain rfl : j = m.x.left.length := by omega
          have cr2 := HX.out.2.2.1
          have HX1 := HX
          rw [List.take_length] at HX1
          obtain ⟨wi, rfl⟩ : ∃ wi : World, wi = wr := ⟨_, rfl⟩
          clear HX HS HOS
          have HS := HSR
          have HOS := HOR
          go_wp2_with fail
          go_loopw [31] (fun vi w3 => ∃ j : Nat, j ≤ m.x.right.length ∧ vi = .int .i64 j ∧ Hid (Keeps w w3 ∧ wo.heap.size + 1 ≤ w3.heap.size ∧ w3.cell? ⟨wo.heap.size, 2, none⟩ = some (.slice m.ar m.x.right.length m.cr) ∧ VMap refK w3 (w.heap.size + 1) ((k * 20 + m.x.left.length) + j) (setM (memB ((refsOf (ms.take k) ++ m.x.left) ++ m.x.right.take j))))) (fun vi _ => m.x.right.length - (intOf vi).toNat)
          case atStart => exact ⟨0, Nat.zero_le _, rfl, Lib.hid ⟨HX1.out.1, HX1.out.2.1, HX1.out.2.2.1, by rw [List.take_zero, List.append_nil, Nat.add_zero]; exact HX1.out.2.2.2⟩⟩
          case round =>
            obtain ⟨j, hj, rfl, HX⟩ := hrel
            by_cases hjl : j < m.x.right.length
            · have hr2 := HS.out.keeps HX.out.1
              have hix2 := Sl.at hr2 Try.underlying45 Try.sizeOf59 j hjl
              obtain ⟨r, hrj⟩ : ∃ r, m.x.right[j] = r := ⟨_, rfl⟩
              have d0 := hr2.cell Rf.len j hjl 0 (.int .i64 r.e) (by rw [hrj]; rfl)
              have d1 := hr2.cell Rf.len j hjl 1 (.int .i64 r.l) (by rw [hrj]; rfl)
              rw [Nat.add_zero] at d0
              have HROK : Hid r.Ok := Lib.hid (by rw [← hrj]; exact HOS.out _ (List.getElem_mem ..))
              have HT : Hid ((refsOf (ms.take k) ++ m.x.left) ++ m.x.right.take (j + 1) = ((refsOf (ms.take k) ++ m.x.left) ++ m.x.right.take j) ++ [r]) := Lib.hid (by rw [take_snoc _ j hjl, hrj]; simp only [List.append_assoc])
              have hml := HX.out.2.2.2.lt
              clear hr2 hrj
              go_wp2_with ((refine wpList_vstore (K := refK) rfl _ _ _ 85 rfl Try.underlying85 (w.heap.size + 1) ((k * 20 + m.x.left.length) + j) rfl (HX.out.2.2.2.alloc _) (by unfold maxLen; omega) r HROK.out rfl (.bool true) rfl (setM (memB ((refsOf (ms.take k) ++ m.x.left) ++ m.x.right.take (j + 1)))) (by rw [HT.out]; exact (memB_snoc _ r).1) (fun d _ hd => by rw [HT.out]; exact (memB_snoc _ r).2 d hd) ?_); intro w4 hm4 hg4; have HY : Hid (Keeps w w4 ∧ wo.heap.size + 1 ≤ w4.heap.size ∧ w4.cell? ⟨wo.heap.size, 2, none⟩ = some (.slice m.ar m.x.right.length m.cr) ∧ VMap refK w4 (w.heap.size + 1) ((k * 20 + m.x.left.length) + j + 1) (setM (memB ((refsOf (ms.take k) ++ m.x.left) ++ m.x.right.take (j + 1))))) := Lib.hid ⟨Below.grown (HX.out.1.alloc _) hg4 (HX.out.1.alloc _).size (fun q hq => by cases hq; omega), Nat.le_trans (Nat.le_trans HX.out.2.1 (by simp)) hg4.size, hg4.cell (Keeps.cell ((Keeps.refl _).alloc _) HX.out.2.2.1) (fun e => by have := Option.some.inj e; simp only at this; omega), hm4⟩; clear hm4 hg4)
              go_roundw
              case rel => exact ⟨j + 1, by omega, by go_num, HY⟩
              case measure => simp [intOf]; omega
            · obtain rfl : j = m.x.right.length := by omega
              go_wp2_with fail
              go_roundw
              case rel => exact ⟨k + 1, by omega, by go_num, Lib.hid ⟨HX.out.1, by have := HX.out.2.1; omega, by rw [HT2.out]; have h := HX.out.2.2.2; rw [List.take_length] at h; exact h.mono (by omega)⟩⟩
              case measure => simp [intOf]; omega
    · obtain rfl : k = ms.length := by omega
      have hmw := HW.out.2.2
      rw [List.take_length] at hmw
      have HMW := Lib.hid hmw
      clear hmw
      go_wp2_with fail
      go_ret
      exact ⟨w.heap.size + 1, rfl, by have := HW.out.2.1; omega, HMW.out.mono (by omega), HW.out.1⟩
end Go.Proofs.Ytfddhmhagijodaa
