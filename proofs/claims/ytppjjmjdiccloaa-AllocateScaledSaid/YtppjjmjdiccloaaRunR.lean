/- Running of the reference: the walk: it returns runS. -/
import Derived.Test.YtppjjmjdiccloaaRunW
import Derived.Test.YtppjjmjdiccloaaApp
namespace Go.Proofs.Ytppjjmjdiccloaa
open Go.RowKit

theorem elemInt : ElemOf Try.prog 22 3 (.int .i64 0) 1 8 := ⟨Try.underlying22, infoInt, rfl, by decide⟩

/-- The relation of the second loop of the reference's Running. -/
def QRel (w : World) (l : List Int) (num den : Int) (last out sum i : Value) (wr : World) : Prop :=
  ∃ k : Nat, k ≤ l.length ∧ i = .int .i64 k ∧ last = .int .i64 (runP l num den k) ∧ sum = .int .i64 (lsum (l.take k)) ∧
    wr.ownsRow w.heap.size 3 1 out (runL l num den k).length ((runL l num den k).map (.int .i64)) ∧ Keeps w wr ∧ (∀ j, j < k → runOk l num den (j + 1) = true)

set_option maxHeartbeats 1000000 in
theorem rrunning_any (l : List Int) (num den : Int) (ao : Option Addr) (cap b o : Nat) (w : World) (H : Sl w 1 ao l.length cap b o (l.map (.int .i64))) (hlen : l.length ≤ 100000) :
    Calls Try.prog 20 #[.slice ao l.length cap, .int .i64 num, .int .i64 den] w fun e w' => OutL w (runS l num den).1 (runS l num den).2 e w' := by
  have hcap := H.cap
  have hle := H.le
  go_enter Try.func20, Try.ntmps20
  go_wp2_with fail
  go_loop [8] (fun i => ∃ k : Nat, k ≤ l.length ∧ i = .int .i64 k ∧ Hid (∀ j (hj : j < l.length), j < k → amt l[j] = true)) (fun i => l.length - (intOf i).toNat)
  case atStart => exact ⟨0, Nat.zero_le _, rfl, fun j _ hj => absurd hj (Nat.not_lt_zero _)⟩
  case round =>
    obtain ⟨k, hk, rfl, HA⟩ := hrel
    by_cases hlt : k < l.length
    · have hix := H.at1 Try.underlying22 Try.sizeOf3 k hlt
      have hcell := H.int k hlt
      cases ha : amt l[k]
      · have HR := Lib.hid (runS_bad l num den k hlt ha)
        go_wp2_with (go_at_call 30; refine (rvalid_any _ _).mono ?_; rintro e w' ⟨rfl, rfl⟩)
        go_ret2
        rw [HR.out]
        exact OutL.nil (Keeps.refl _)
      · have HA2 : Hid (∀ j (hj : j < l.length), j < k + 1 → amt l[j] = true) := by
          intro j hj hjk
          rcases Nat.lt_succ_iff_lt_or_eq.1 hjk with h | rfl
          · exact HA.out j hj h
          · exact ha
        go_wp2_with (go_at_call 30; refine (rvalid_any _ _).mono ?_; rintro e w' ⟨rfl, rfl⟩)
        go_round
        case rel => exact ⟨k + 1, by omega, by go_num, HA2⟩
        case measure => simp [intOf]; omega
    · have HAMT : Hid (∀ j (hj : j < l.length), amt l[j] = true) := fun j hj => HA.out j hj (by omega)
      have hP := pok_zero num den
      cases hp : pok 0 num den
      · have h1 : (portionS 0 num den).2 = 1 := by rw [hP, hp]; rfl
        have HR := Lib.hid (runS_bad0 l num den hp)
        clear hP hp HA
        go_wp2_with (go_at_call 31; refine (rportion_any _ _ _ _).mono ?_; rintro e w' ⟨rfl, nd, rfl⟩)
        go_ret2
        rw [HR.out]
        exact OutL.nil ((Keeps.refl w).drewN _)
      · have h0 : (portionS 0 num den).2 = 0 := by rw [hP, hp]; rfl
        have h00 : (portionS 0 num den).1 = 0 := runP_zero l num den
        have hpre : runPre l num den = true := runPre_of l num den hp fun j hj => HA.out j hj (by omega)
        have HPRE := Lib.hid hpre
        have HP := Lib.hid hp
        clear hpre HA hP hp
        obtain ⟨i0, hi, hz0, hz1, hz2⟩ := info_parts infoInt
        go_wp2_with (go_at_call 31; refine (rportion_any _ _ _ _).mono ?_; rintro e w' ⟨rfl, nd, rfl⟩)
        have hrel0 : QRel w l num den (.int .i64 0) (.slice none 0 0) (.int .i64 0) (.int .i64 0) (w.drewN nd) :=
          ⟨0, Nat.zero_le _, rfl, by rw [runP_zero], rfl, World.ownsRow_nil _ _ _ _, (Keeps.refl w).drewN _, fun j hj => absurd hj (Nat.not_lt_zero _)⟩
        have HREL := Lib.hid hrel0
        clear hrel0 h0 h00
        go_loopw [9, 11, 12, 13] (QRel w l num den) (fun _ _ _ i _ => l.length - (intOf i).toNat)
        case atStart => exact HREL.out
        case round =>
          clear hk hlt HREL
          obtain ⟨k, hk, rfl, rfl, rfl, hown, hb, hok⟩ := hrel
          by_cases hlt : k < l.length
          · have HSr := H.keeps hb
            have hix := HSr.at1 Try.underlying22 Try.sizeOf3 k hlt
            have hcell := HSr.int k hlt
            have hsum := sum_amt l num den k hok
            have hx := amt_true.1 (HAMT.out k hlt)
            have hlp := runP_amt l num den k
            have hlp2 := runP_amt l num den (k + 1)
            have HT := Lib.hid (lsum_take l k hlt)
            have hpa := portion_amt (lsum (l.take k) + l[k]) num den
            cases hr : runOk l num den (k + 1)
            · have HR := Lib.hid (runS_stop l num den HPRE.out k hlt hr)
              rw [runOk, HT.out] at hr
              clear hlp2 hpa
              cases ha : amt (lsum (l.take k) + l[k])
              · clear hr
                go_wp2_with (go_at_call 30; refine (rvalid_any _ _).mono ?_; rintro e w' ⟨rfl, rfl⟩)
                go_ret2
                rw [HR.out]
                exact OutL.nil hb
              · have he : (portionS (lsum (l.take k) + l[k]) num den).2 = 2 := by
                  rw [ha, Bool.true_and, decide_eq_false_iff_not] at hr
                  rcases portion_err (lsum (l.take k) + l[k]) num den (pok_of HP.out ha) with h | h
                  · exact absurd h hr
                  · exact h
                clear hr
                go_wp2_with (first | (go_at_call 30; refine (rvalid_any _ _).mono ?_; rintro e w' ⟨rfl, rfl⟩) | (go_at_call 31; refine (rportion_any _ _ _ _).mono ?_; rintro e w' ⟨rfl, nd, rfl⟩))
                go_ret2
                rw [HR.out]
                exact OutL.nil (hb.drewN _)
            · have hr2 := hr
              rw [runOk, HT.out, Bool.and_eq_true, decide_eq_true_eq] at hr2
              obtain ⟨ha, he⟩ := hr2
              have HPE : Hid ((portionS (lsum (l.take k) + l[k]) num den).1 = runP l num den (k + 1)) := by
                show _ = _
                rw [← HT.out]; rfl
              have HOK : Hid (∀ j, j < k + 1 → runOk l num den (j + 1) = true) := by
                intro j hj
                rcases Nat.lt_succ_iff_lt_or_eq.1 hj with h | rfl
                · exact hok j h
                · exact hr
              have hlen' : (runL l num den k).length = k := runL_length l num den k
              have HL := Lib.hid hlen'
              have hll : (runL l num den k).length ≤ k := by omega
              clear hr hok hlen' hlp2
              go_wp2_with (first | (go_at_call 30; refine (rvalid_any _ _).mono ?_; rintro e w' ⟨rfl, rfl⟩) | (go_at_call 31; refine (rportion_any _ _ _ _).mono ?_; rintro e w' ⟨rfl, nd2, rfl⟩) | (at_builtin; refine wpList_app elemInt rfl _ _ rfl w _ _ _ rfl w.heap.size hown (Keeps.drewN hb nd2) ?c0 [.int .i64 ((portionS (lsum (l.take k) + l[k]) num den).1 - runP l num den k)] 1 rfl rfl ?c2 ?c3 ?c4 ?_))
              case c0 => exact hb.size
              case c2 => intro u hu; simp at hu; subst hu; rfl
              case c3 => omega
              case c4 => omega
              intro v3 w3 hown3 hb3 hsz3
              have R4 : w3.ownsRow w.heap.size 3 1 v3 (runL l num den (k + 1)).length ((runL l num den (k + 1)).map (.int .i64)) := by
                have h4 := hown3
                rw [HL.out] at h4
                rw [runL_length, runL_succ, List.map_append, ← HPE.out]; exact h4
              clear hown3 hown
              go_wp2
              go_roundw
              case rel => exact ⟨k + 1, by omega, by go_num, by rw [HPE.out], by rw [HT.out], R4, hb3, HOK.out⟩
              case measure => simp [intOf]; omega
          · obtain rfl : k = l.length := by omega
            have HR := Lib.hid (runS_all l num den HPRE.out hok)
            have HO := Lib.hid hown
            clear hok hown
            go_wp2_with fail
            go_ret2
            rw [HR.out]
            exact OutL.own (er := 0) HO.out hb
end Go.Proofs.Ytppjjmjdiccloaa
