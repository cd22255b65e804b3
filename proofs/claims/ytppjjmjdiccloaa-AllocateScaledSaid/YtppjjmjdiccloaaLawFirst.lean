/- AllocateFirst: the walk of the law. -/
import Derived.Test.YtppjjmjdiccloaaAwake
namespace Go.Proofs.Ytppjjmjdiccloaa
open Go.RowKit
attribute [local go_sem ↓] Go.wp_at_zero Go.wp_at_succ

/-- A slice of n ints and an error code: the slice is new. -/
def OutN (w : World) (n : Nat) (xs : List Int) (er : Int) (e : Ending) (w' : World) : Prop :=
  ∃ ao cap b o, e = .returned (.tuple #[.slice ao n cap, .int .i64 er]) ∧ Sl w' 1 ao n cap b o (xs.map (.int .i64)) ∧ Keeps w w'
theorem OutL.n {w w' : World} {xs : List Int} {er : Int} {e : Ending} (h : OutL w xs er e w') {n : Nat} (hn : xs.length = n) : OutN w n xs er e w' := by
  subst hn; exact h

theorem running_pre (l : List Int) (num den : Int) (k : Nat) (hk : k ≤ l.length) (hlen : l.length ≤ 200) (h : (runS l num den).2 = 0) (v : Value) (w : World) (hv : IntL w v (l.take k)) :
    Calls Try.prog 19 #[v, .int .i64 num, .int .i64 den] w fun e w' => OutN w k (runL l num den k) 0 e w' := by
  obtain ⟨e1, e2⟩ := runS_prefix l num den k hk h
  refine (running_l (l.take k) num den v w hv (by rw [List.length_take]; omega)).mono fun e w' h => ?_
  rw [e2] at h
  exact h.n (runL_length _ _ _ _)

set_option maxHeartbeats 1000000 in
theorem lawFirst_any (l : List Int) (num den at' : Int) (ao : Option Addr) (cap b o : Nat) (w : World) (H : Sl w 1 ao l.length cap b o (l.map (.int .i64))) (ha : 0 ≤ at' ∧ at' ≤ 255) :
    Calls Try.prog 10 #[.slice ao l.length cap, .agg #[.int .i64 num, .int .i64 den], .int .u8 at'] w fun e w' => e = .returned (.bool true) ∧ Keeps w w' := by
  have hcap := H.cap
  have hle := H.le
  by_cases hlen : l.length ≤ 200
  · by_cases h0 : l.length = 0
    · have hz : ((l.length : Int) == 0) = true := by simp [h0]
      clear h0
      go_enter Try.func10, Try.ntmps10
      go_wp2_with (go_at_call 11; refine (awake_any _).mono ?_; rintro e w1 ⟨rfl, hk1⟩)
      go_ret
      exact ⟨rfl, ((Keeps.refl w).alloc _).trans hk1⟩
    · have hz : ((l.length : Int) == 0) = false := beq_eq_false_iff_ne.2 (by omega)
      obtain ⟨k, hk⟩ := Int.eq_ofNat_of_zero_le (Int.emod_nonneg at' (show (l.length : Int) + 1 ≠ 0 by omega))
      have hkl : k ≤ l.length := by have := Int.emod_lt_of_pos at' (show 0 < (l.length : Int) + 1 by omega); rw [hk] at this; omega
      have HT : Hid (∀ W, Sl W 1 ao l.length cap b o (l.map (.int .i64)) → IntL W (.slice ao k cap) (l.take k)) := by
        intro W hW
        have := hW.takeInt k hkl
        rw [List.length_take, Nat.min_eq_left hkl] at this
        exact ⟨ao, cap, b, o, by rw [List.length_take, Nat.min_eq_left hkl], by rw [List.length_take, Nat.min_eq_left hkl]; exact this⟩
      have z0 : (0 : Int) ≤ (k : Int) := by omega
      have z1 : (k : Int) ≤ (cap : Int) := by omega
      have HFULL : Hid (∀ W, Sl W 1 ao l.length cap b o (l.map (.int .i64)) → IntL W (.slice ao l.length cap) (l.take l.length)) := fun W hW => by rw [List.take_length]; exact IntL.of hW
      by_cases he : (runS l num den).2 = 0
      · have HC := Lib.hid (running_pre l num den l.length (Nat.le_refl _) hlen he)
        have HCK := Lib.hid (running_pre l num den k hkl hlen he)
        have HE : Hid (∀ (w : World) (ao : Option Addr) (cap b o : Nat), Sl w 1 ao l.length cap b o ((runL l num den l.length).map (.int .i64)) → Sl w 1 ao (runL l num den k).length cap b o ((runL l num den k).map (.int .i64))) := by
          intro w ao cap b o h
          have hl := runL_length l num den l.length
          have h2 : Sl w 1 ao (runL l num den l.length).length cap b o ((runL l num den l.length).map (.int .i64)) := by rw [hl]; exact h
          have := h2.takeInt k (by rw [hl]; exact hkl)
          rwa [runL_take2 _ _ _ _ _ hkl] at this
        have HL := Lib.hid (runL_length l num den k)
        clear he h0
        go_enter Try.func10, Try.ntmps10
        go_wp2_with (first | (go_at_call 11; refine (awake_any _).mono ?_; rintro e w1 ⟨rfl, hk1⟩; have H1 := H.keeps (((Keeps.refl w).alloc (.cells #[.int .i64 num, .int .i64 den] 35)).trans hk1); have c0 : w1.cell? ⟨w.heap.size, 0, none⟩ = some (.int .i64 num) := hk1.cell (by simp); have c1 : w1.cell? ⟨w.heap.size, 1, none⟩ = some (.int .i64 den) := hk1.cell (by simp)) | (go_at_call 19; refine (HC.out _ _ (HFULL.out _ H1)).mono ?_; rintro e w2 ⟨ao2, cap2, b2, o2, rfl, hs2, hk2⟩))
        have d0 := hk2.cell c0
        have d1 := hk2.cell c1
        have HS2 := Lib.hid (H1.keeps hk2)
        have HR2 := Lib.hid hs2
        have HKP2 := Lib.hid ((((Keeps.refl w).alloc (.cells #[.int .i64 num, .int .i64 den] 35)).trans hk1).trans hk2)
        have hcap2 := hs2.le
        clear c0 c1 H1 hs2 hk1 hk2 H
        go_region_held3 (fun w' => w'.cell? ⟨w.heap.size, 0, none⟩ = some (.int .i64 num) ∧ w'.cell? ⟨w.heap.size, 1, none⟩ = some (.int .i64 den))
          (first | go_keep | (exact ⟨hk3.cell d0, hk3.cell d1⟩))
          (first | (go_at_call 19; refine (HCK.out _ _ (HT.out _ (HS2.out.drewN 1))).mono ?_; rintro e w3 ⟨ao3, cap3, b3, o3, rfl, hs3, hk3⟩))
        have HR3 := Lib.hid (HR2.out.keeps (Keeps.trans ((Keeps.refl w2).drewN 1) hk3))
        have HKP3 := Lib.hid (HKP2.out.trans (Keeps.trans ((Keeps.refl w2).drewN 1) hk3))
        have HS3 : Hid (Sl w3 1 ao3 (runL l num den k).length cap3 b3 o3 ((runL l num den k).map (.int .i64))) := by
          show Sl _ _ _ _ _ _ _ _
          rw [HL.out]; exact hs3
        have hb1 : ((l.length : Int) == (l.length : Int)) = true := beq_self_eq_true _
        have hcs : Calls Try.prog 14 #[.slice ao2 k cap2, .slice ao3 k cap3] w3 fun e w' => Gives w3 (.bool true) e w' := by
          have := same_any (runL l num den k) (runL l num den k) ao2 ao3 cap2 b2 o2 cap3 b3 o3 w3 (HE.out _ _ _ _ _ HR3.out) HS3.out
          rw [HL.out] at this
          simpa using this
        have HCS := Lib.hid hcs
        clear hcs
        clear hs3 hk3 d0 d1 HR2 HKP2 HS2
        go_wp2_with (go_at_call 14; refine HCS.out.mono ?_; rintro e w4 ⟨rfl, q4, rfl⟩)
        go_ret
        exact ⟨rfl, HKP3.out.drewN _⟩
      · have HCF := Lib.hid (fun W h => running_l l num den (.slice ao l.length cap) W h (by omega))
        have HCK := Lib.hid (fun v W h => running_l (l.take k) num den v W h (by rw [List.length_take]; omega))
        have hb : ((runS l num den).2 != 0) = true := by simp [he]
        clear he h0
        go_enter Try.func10, Try.ntmps10
        go_wp2_with (first | (go_at_call 11; refine (awake_any _).mono ?_; rintro e w1 ⟨rfl, hk1⟩; have H1 := H.keeps (((Keeps.refl w).alloc (.cells #[.int .i64 num, .int .i64 den] 35)).trans hk1); have c0 : w1.cell? ⟨w.heap.size, 0, none⟩ = some (.int .i64 num) := hk1.cell (by simp); have c1 : w1.cell? ⟨w.heap.size, 1, none⟩ = some (.int .i64 den) := hk1.cell (by simp)) | (go_at_call 19; refine (HCF.out _ (IntL.of H1)).mono ?_; rintro e w2 ⟨ao2, cap2, b2, o2, rfl, hs2, hk2⟩))
        have d0 := hk2.cell c0
        have d1 := hk2.cell c1
        have HS2 := Lib.hid (H1.keeps hk2)
        have HKP2 := Lib.hid ((((Keeps.refl w).alloc (.cells #[.int .i64 num, .int .i64 den] 35)).trans hk1).trans hk2)
        clear c0 c1 H1 hs2 hk1 hk2 H
        go_region_held3 (fun w' => w'.cell? ⟨w.heap.size, 0, none⟩ = some (.int .i64 num) ∧ w'.cell? ⟨w.heap.size, 1, none⟩ = some (.int .i64 den))
          (first | go_keep | (exact ⟨hk3.cell d0, hk3.cell d1⟩))
          (first | (go_at_call 19; refine (HCK.out _ _ (HT.out _ (HS2.out.drewN 1))).mono ?_; rintro e w3 ⟨ao3, cap3, b3, o3, rfl, hs3, hk3⟩))
        have HKP3 := Lib.hid (HKP2.out.trans (Keeps.trans ((Keeps.refl w2).drewN 1) hk3))
        clear hs3 hk3 d0 d1 HKP2 HS2
        go_wp2_with fail
        go_ret
        exact ⟨rfl, HKP3.out⟩
  · go_enter Try.func10, Try.ntmps10
    go_wp2_with (go_at_call 11; refine (awake_any _).mono ?_; rintro e w1 ⟨rfl, hk1⟩)
    go_ret
    exact ⟨rfl, ((Keeps.refl w).alloc _).trans hk1⟩
end Go.Proofs.Ytppjjmjdiccloaa
