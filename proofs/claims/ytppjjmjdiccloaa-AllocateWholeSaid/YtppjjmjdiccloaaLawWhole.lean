/- AllocateWhole: the walk of the law. -/
import Derived.Test.YtppjjmjdiccloaaLawFirst
import Derived.Test.YtppjjmjdiccloaaWholeP
namespace Go.Proofs.Ytppjjmjdiccloaa
open Go.RowKit

theorem Sl.intk {w : World} {ao : Option Addr} {cap b o : Nat} {q : IntKind} {zs : List Int} (H : Sl w 1 ao zs.length cap b o (zs.map (.int q))) (j : Nat) (hj : j < zs.length) :
    w.cell? ⟨b, o + j, none⟩ = some (.int q zs[j]) := H.cell j _ (by simp [hj])

/-- The amounts have been collected. -/
def ARel (w : World) (l : List Int) (am sum i : Value) (wr : World) : Prop :=
  ∃ k : Nat, k ≤ l.length ∧ i = .int .i64 k ∧ sum = .int .i64 (lsum (l.take k)) ∧ wr.ownsRow w.heap.size 3 1 am (l.take k).length ((l.take k).map (.int .i64)) ∧ Keeps w wr

theorem take_bd (l : List Int) (k : Nat) (hb : ∀ x ∈ l, -2147483648 ≤ x ∧ x ≤ 2147483647) (hn : l.length ≤ 100) : -214748364800 ≤ lsum (l.take k) ∧ lsum (l.take k) ≤ 214748364800 := by
  have := lsum_bd (l.take k) 2147483648 (fun x hx => by have := hb x (List.mem_of_mem_take hx); omega)
  have h3 := List.length_take_le' k l
  omega

theorem runL_get (l : List Int) (num den : Int) (n k : Nat) (hk : k < n) (h2 : k < (runL l num den n).length) : (runL l num den n)[k] = runP l num den (k + 1) - runP l num den k := by
  simp [runL]

/-- What is left of the whole after k parts. -/
def WhRel (w : World) (l : List Int) (num den : Int) (whole i : Value) (wr : World) : Prop :=
  ∃ k q : Nat, k ≤ l.length ∧ i = .int .i64 k ∧ whole = .int .i64 (runP l num den l.length - runP l num den k) ∧ wr = w.drewN q

set_option maxHeartbeats 1000000 in
theorem lawWhole_any (l : List Int) (num den : Int) (ao : Option Addr) (cap b o : Nat) (w : World) (H : Sl w 1 ao l.length cap b o (l.map (.int .i32))) (hb : ∀ x ∈ l, -2147483648 ≤ x ∧ x ≤ 2147483647) (hn : 0 ≤ num ∧ num ≤ 65535) (hd : 0 ≤ den ∧ den ≤ 65535) :
    Calls Try.prog 9 #[.slice ao l.length cap, .int .u16 num, .int .u16 den] w fun e w' => e = .returned (.bool true) ∧ Keeps w w' := by
  have hcap := H.cap
  have hle := H.le
  by_cases h0 : den = 0
  · have hz : (den == 0) = true := by simp [h0]
    clear h0
    go_enter Try.func9, Try.ntmps9
    go_wp2_with (go_at_call 11; refine (awake_any _).mono ?_; rintro e w1 ⟨rfl, hk1⟩)
    go_ret
    exact ⟨rfl, hk1⟩
  · have hz : (den == 0) = false := by simp [h0]
    have hd1 : 1 ≤ den := by omega
    clear h0
    by_cases hlen : l.length ≤ 100
    · have hp0 : pok 0 num den = true := pok_true.2 ⟨⟨by omega, by omega⟩, by omega, by omega, by omega, by omega⟩
      have HAM : Hid (∀ x ∈ l, amt x = true) := fun x hx => amt_true.2 (by have := hb x hx; omega)
      have hpre : runPre l num den = true := runPre_of l num den hp0 (fun k hk => HAM.out _ (List.getElem_mem hk))
      have HPRE := Lib.hid hpre
      have HP0 := Lib.hid hp0
      have HBD := Lib.hid hb
      obtain ⟨i0, hi, hz0, hz1, hz2⟩ := info_parts infoInt
      clear hpre hp0 hb
      go_enter Try.func9, Try.ntmps9
      go_wp2_with (go_at_call 11; refine (awake_any _).mono ?_; rintro e w1 ⟨rfl, hk1⟩)
      have H1 := Lib.hid (H.keeps hk1)
      have K1 := Lib.hid hk1
      clear H hk1
      go_loopw [7, 8, 9] (ARel w1 l) (fun _ _ i _ => l.length - (intOf i).toNat)
      case atStart => exact ⟨0, Nat.zero_le _, rfl, rfl, World.ownsRow_nil _ _ _ _, Keeps.refl _⟩
      case round =>
        obtain ⟨k, hk, rfl, rfl, hown, hkp⟩ := hrel
        by_cases hlt : k < l.length
        · have HSr := H1.out.keeps hkp
          have hix := HSr.at1 Try.underlying38 Try.sizeOf21 k hlt
          have hcell := HSr.intk k hlt
          have hx := HBD.out _ (List.getElem_mem hlt)
          have hsb := take_bd l k HBD.out hlen
          have HT := Lib.hid (lsum_take l k hlt)
          have hlk : (l.take k).length = k := by rw [List.length_take]; omega
          have HLK := Lib.hid hlk
          have hll : (l.take k).length ≤ k := by omega
          clear hlk HSr
          go_wp2_with (at_builtin; refine wpList_app elemInt rfl _ _ rfl w1 _ _ _ rfl w1.heap.size hown hkp ?c0 [.int .i64 l[k]] 1 rfl rfl ?c2 ?c3 ?c4 ?_)
          case c0 => exact hkp.size
          case c2 => intro u hu; simp at hu; subst hu; rfl
          case c3 => omega
          case c4 => omega
          intro v3 w3 hown3 hb3 hsz3
          have R4 : w3.ownsRow w1.heap.size 3 1 v3 (l.take (k + 1)).length ((l.take (k + 1)).map (.int .i64)) := by
            have h4 := hown3
            rw [← List.map_take] at h4
            rw [take_snoc _ _ hlt, List.length_append, List.map_append, HLK.out]
            exact h4
          have HSr2 := H1.out.keeps hb3
          have hcell2 := HSr2.intk k hlt
          clear hown3 hown hcell HSr2
          go_wp2_with fail
          go_roundw
          case rel => exact ⟨k + 1, by omega, by go_num, by rw [HT.out], R4, hb3⟩
          case measure => simp [intOf]; omega
        · obtain rfl : k = l.length := by omega
          have hsb := take_bd l l.length HBD.out hlen
          rw [List.take_length] at hown hsb
          have HOWN := Lib.hid hown
          obtain ⟨aoA, capA, bA, rfl, hsA⟩ := Sl.own hown
          have HA := Lib.hid hsA
          have hle2 := hsA.le
          have hcapA := hsA.cap
          have K2 := Lib.hid (K1.out.trans hkp)
          have HL := Lib.hid (List.take_length (l := l))
          clear hown hsA hkp HOWN
          rw [List.take_length]
          rcases runS_cases l num den HPRE.out with hr | ⟨hr, hok⟩
          · have HC : Hid (∀ W, Sl W 1 aoA l.length capA bA 0 (l.map (.int .i64)) → Calls Try.prog 19 #[.slice aoA l.length capA, .int .i64 num, .int .i64 den] W fun e w' => OutL W [] 2 e w') := by
              intro W hW
              have := running_any l num den aoA capA bA 0 W hW (by omega)
              rwa [hr] at this
            clear hr
            go_wp2_with (first | (go_at_call 19; refine (HC.out _ HA.out).mono ?_; rintro e w2 ⟨ao2, cap2, b2, o2, rfl, hs2, hk2⟩) | (go_at_call 21; refine (mportion_any _ _ _ _).mono ?_; rintro e w' ⟨rfl, nd, rfl⟩))
            go_ret
            exact ⟨rfl, (K2.out.trans hk2).drewN _⟩
          · have HC : Hid (∀ W, Sl W 1 aoA l.length capA bA 0 (l.map (.int .i64)) → Calls Try.prog 19 #[.slice aoA l.length capA, .int .i64 num, .int .i64 den] W fun e w' => OutN W l.length (runL l num den l.length) 0 e w') := by
              intro W hW
              have := running_any l num den aoA capA bA 0 W hW (by omega)
              rw [hr] at this
              exact this.mono fun e w' h => h.n (runL_length _ _ _ _)
            have HOK := Lib.hid hok
            have hfe : (portionS (lsum l) num den).2 = 0 := by
              rcases Nat.eq_zero_or_pos l.length with h0 | h0
              · have := (runOk_zero l num den HP0.out).2
                rw [show l.take 0 = l by rw [List.eq_nil_of_length_eq_zero h0]; rfl] at this
                exact this
              · have := (runOk_true (hok (l.length - 1) (by omega))).2
                rwa [show l.length - 1 + 1 = l.length by omega, List.take_length] at this
            have hwp : (portionS (lsum l) num den).1 = runP l num den l.length := by unfold runP; rw [List.take_length]
            have hwb := portion_amt (lsum l) num den
            clear hr hok
            go_wp2_with (first | (go_at_call 19; refine (HC.out _ HA.out).mono ?_; rintro e w2 ⟨ao2, cap2, b2, o2, rfl, hs2, hk2⟩) | (go_at_call 21; refine (mportion_any _ _ _ _).mono ?_; rintro e w' ⟨rfl, nd, rfl⟩))
            have HA2 := Lib.hid ((HA.out.keeps hk2))
            have HS2 := Lib.hid hs2
            have K3 := Lib.hid (K2.out.trans hk2)
            have hle3 := hs2.le
            clear hs2 hk2 H1 hfe hwp hwb
            go_loopw [12, 14] (WhRel w2 l num den) (fun _ i _ => l.length - (intOf i).toNat)
            case atStart => exact ⟨0, nd, Nat.zero_le _, rfl, by rw [runP_zero, Int.sub_zero], rfl⟩
            case round =>
              obtain ⟨k, q, hk, rfl, rfl, rfl⟩ := hrel
              have r1 := runP_amt l num den k
              have r2 := runP_amt l num den (k + 1)
              have r3 := runP_amt l num den l.length
              by_cases hlt : k < l.length
              · have hlt2 : k < (runL l num den l.length).length := by rw [runL_length]; exact hlt
                have HSk : Sl w2 1 ao2 (runL l num den l.length).length cap2 b2 o2 ((runL l num den l.length).map (.int .i64)) := by rw [runL_length]; exact HS2.out
                have hix := HA2.out.at1 Try.underlying22 Try.sizeOf3 k hlt
                have hcell := HA2.out.intk k hlt
                rw [Nat.zero_add] at hcell
                have hix2 := HS2.out.at1 Try.underlying22 Try.sizeOf3 k hlt
                have hcell2 := HSk.int k hlt2
                rw [runL_get _ _ _ _ _ hlt] at hcell2
                have r4 := portion_amt l[k] num den
                have ha0 : amt (lsum (l.take k)) = true ∧ (portionS (lsum (l.take k)) num den).2 = 0 := by
                  rcases Nat.eq_zero_or_pos k with h0 | h0
                  · subst h0; exact runOk_zero l num den HP0.out
                  · have := runOk_true (HOK.out (k - 1) (by omega))
                    rwa [show k - 1 + 1 = k by omega] at this
                have HNR := Lib.hid (run_near l num den k hlt HP0.out (HAM.out _ (List.getElem_mem hlt)) ha0 (runOk_true (HOK.out k hlt)))
                clear ha0 HSk
                by_cases hg : (portionS l[k] num den).2 = 0
                · have hgb : ((portionS l[k] num den).2 == 0) = true := by simp [hg]
                  have hnr := HNR.out hg
                  have hn1 : ¬ runP l num den (k + 1) - runP l num den k - (portionS l[k] num den).1 < -1 := by omega
                  have hn2 : ¬ (1 : Int) < runP l num den (k + 1) - runP l num den k - (portionS l[k] num den).1 := by omega
                  clear hg HNR
                  go_wp2_with (go_at_call 21; refine (mportion_any _ _ _ _).mono ?_; rintro e w' ⟨rfl, nd2, rfl⟩)
                  go_roundw
                  case rel => exact ⟨k + 1, _, by omega, by go_num, by congr 1; omega, rfl⟩
                  case measure => simp [intOf]; omega
                · have hgb : ((portionS l[k] num den).2 == 0) = false := by simp [hg]
                  clear hg HNR
                  go_wp2_with (go_at_call 21; refine (mportion_any _ _ _ _).mono ?_; rintro e w' ⟨rfl, nd2, rfl⟩)
                  go_roundw
                  case rel => exact ⟨k + 1, _, by omega, by go_num, by congr 1; omega, rfl⟩
                  case measure => simp [intOf]; omega
              · obtain rfl : k = l.length := by omega
                go_wp2_with fail
                go_ret
                exact ⟨by simp, K3.out.drewN _⟩
    · go_enter Try.func9, Try.ntmps9
      go_wp2_with (go_at_call 11; refine (awake_any _).mono ?_; rintro e w1 ⟨rfl, hk1⟩)
      go_ret
      exact ⟨rfl, hk1⟩
end Go.Proofs.Ytppjjmjdiccloaa
