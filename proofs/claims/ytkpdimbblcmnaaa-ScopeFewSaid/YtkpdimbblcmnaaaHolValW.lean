/- The program's Valid of holdings: the walk. -/
import Derived.Test.YtkpdimbblcmnaaaHolValP
import Derived.Test.YtkpdimbblcmnaaaHolKey
import Derived.Test.YtkpdimbblcmnaaaHolSmall2
import Derived.Test.YtkpdimbblcmnaaaHolTotW
namespace Go.Proofs.Ytkpdimbblcmnaaa
open Go.RowKit
set_option linter.unusedSimpArgs false
set_option linter.unusedVariables false

def Hol.Ok (x : Hol) : Prop := I64 x.holder ∧ I64 x.entity ∧ I64 x.date ∧ I64 x.share
set_option maxRecDepth 100000 in
set_option maxHeartbeats 4000000 in
theorem hvalid_any (n : Int) (ao : Option Addr) (l : List Hol) (cap b o : Nat) (w : World) (H : Hols w ao l cap b o) (hlen : l.length ≤ 1000) (hok : ∀ x ∈ l, x.Ok) :
    Calls Try.prog 37 #[.int .i64 n, .slice ao l.length cap] w fun en w' => en = .returned (.bool (hvalidB n l)) ∧ Keeps w w' := by
  have hcap := Sl.cap H
  have hle := Sl.le H
  have HH := Lib.hid H
  have HO := Lib.hid hok
  have hmm := @run_makeMap Try.prog
  clear H hok
  by_cases hs : 1 ≤ n ∧ n ≤ 12 ∧ l.length ≤ 200
  · obtain ⟨h1, h2, h3⟩ := hs
    go_enter Try.func37, Try.ntmps37
    go_wp2_with fail
    go_loopw [26] (fun vi wr => ∃ k : Nat, k ≤ l.length ∧ vi = .int .i64 k ∧ Hid (∀ j < k, okH n l j = true) ∧ Hid (Keeps w wr ∧ VMap holK wr w.heap.size k (seenH (l.take k)))) (fun vi _ => l.length - (intOf vi).toNat)
    case atStart => exact ⟨0, Nat.zero_le _, rfl, Lib.hid (fun j hj => absurd hj (Nat.not_lt_zero _)), Lib.hid ⟨(Keeps.refl w).alloc _, by rw [List.take_zero, seenH_nil]; exact VMap.made holK w⟩⟩
    case round =>
      obtain ⟨k, hk, rfl, HN, HW⟩ := hrel
      by_cases hlt : k < l.length
      · have HL := HH.out.keeps HW.out.1
        have hix := Sl.at HL Try.underlying23 Try.sizeOf46 k hlt
        have c0 := HL.cell Hol.len k hlt 0 _ rfl
        have c1 := HL.cell Hol.len k hlt 1 _ rfl
        have c2 := HL.cell Hol.len k hlt 2 _ rfl
        have c3 := HL.cell Hol.len k hlt 3 _ rfl
        simp only [Nat.add_zero] at c0
        have hxo := HO.out _ (List.getElem_mem hlt)
        have hokk := okH_at (n := n) hlt
        have hkok : holK.ok (keyH l[k]) := ⟨hxo.1, hxo.2.1, hxo.2.2.1, (show I64 0 from ⟨by decide, by decide⟩)⟩
        obtain ⟨pr, hpr⟩ : ∃ pr, properB n l[k] = pr := ⟨_, rfl⟩
        rw [hpr] at hokk
        have HP : Hid (∀ W, Calls Try.prog 51 #[.int .i64 n, .agg #[.int .i64 l[k].holder, .int .i64 l[k].entity, .int .i64 l[k].date, .int .i64 l[k].share]] W fun en w' => en = .returned (.bool pr) ∧ Keeps W w') := Lib.hid (fun W => by have := properH_any n l[k] W; rw [hpr] at this; exact this)
        clear HL hxo hpr
        cases pr with
        | false =>
          have HQ := Lib.hid (hvalidB_bad hlt (hokk.trans (Bool.false_and _)))
          clear hokk
          go_wp2_with (go_at_call 51; refine (HP.out _).mono ?_; rintro en w1 ⟨rfl, hk1⟩; have x0 := hk1.cell (p := ⟨wr.heap.size + 1, 0, none⟩) (v := .int .i64 l[k].holder) (by go_simp); have x1 := hk1.cell (p := ⟨wr.heap.size + 1, 1, none⟩) (v := .int .i64 l[k].entity) (by go_simp); have x2 := hk1.cell (p := ⟨wr.heap.size + 1, 2, none⟩) (v := .int .i64 l[k].date) (by go_simp); have x3 := hk1.cell (p := ⟨wr.heap.size + 1, 3, none⟩) (v := .int .i64 0) (by go_simp); have HM1 : Hid (VMap holK w1 w.heap.size k (seenH (l.take k))) := Lib.hid (((HW.out.2.alloc _).alloc _).keeps hk1); have hlk : (Instr.lookup 86 (.map (some w.heap.size)) (.agg #[.int .i64 l[k].holder, .int .i64 l[k].entity, .int .i64 l[k].date, .int .i64 0]) false).run Try.prog w1 = .ok (.bool ((l.take k).any (fun a => sameH a l[k]))) w1 := (by have := HM1.out.look Try.underlying86 (fun w => Try.zeroValue4 w) hkok _ rfl; rw [seenH_get] at this; exact this); (try rw [HS.out] at hlk); have K1 := Lib.hid (((HW.out.1.alloc (.cells #[.int .i64 l[k].holder, .int .i64 l[k].entity, .int .i64 l[k].date, .int .i64 l[k].share] 46)).alloc (.cells #[.int .i64 l[k].holder, .int .i64 l[k].entity, .int .i64 l[k].date, .int .i64 0] 46)).trans hk1); clear hk1)
          go_ret
          rw [HQ.out]
          exact ⟨rfl, K1.out⟩
        | true =>
          cases hs : (l.take k).any (fun a => sameH a l[k]) with
          | true =>
            rw [hs] at hokk
            have HQ := Lib.hid (hvalidB_bad hlt hokk)
            have HS := Lib.hid hs
            clear hokk hs
            go_wp2_with (go_at_call 51; refine (HP.out _).mono ?_; rintro en w1 ⟨rfl, hk1⟩; have x0 := hk1.cell (p := ⟨wr.heap.size + 1, 0, none⟩) (v := .int .i64 l[k].holder) (by go_simp); have x1 := hk1.cell (p := ⟨wr.heap.size + 1, 1, none⟩) (v := .int .i64 l[k].entity) (by go_simp); have x2 := hk1.cell (p := ⟨wr.heap.size + 1, 2, none⟩) (v := .int .i64 l[k].date) (by go_simp); have x3 := hk1.cell (p := ⟨wr.heap.size + 1, 3, none⟩) (v := .int .i64 0) (by go_simp); have HM1 : Hid (VMap holK w1 w.heap.size k (seenH (l.take k))) := Lib.hid (((HW.out.2.alloc _).alloc _).keeps hk1); have hlk : (Instr.lookup 86 (.map (some w.heap.size)) (.agg #[.int .i64 l[k].holder, .int .i64 l[k].entity, .int .i64 l[k].date, .int .i64 0]) false).run Try.prog w1 = .ok (.bool ((l.take k).any (fun a => sameH a l[k]))) w1 := (by have := HM1.out.look Try.underlying86 (fun w => Try.zeroValue4 w) hkok _ rfl; rw [seenH_get] at this; exact this); (try rw [HS.out] at hlk); have K1 := Lib.hid (((HW.out.1.alloc (.cells #[.int .i64 l[k].holder, .int .i64 l[k].entity, .int .i64 l[k].date, .int .i64 l[k].share] 46)).alloc (.cells #[.int .i64 l[k].holder, .int .i64 l[k].entity, .int .i64 l[k].date, .int .i64 0] 46)).trans hk1); clear hk1)
            go_ret
            rw [HQ.out]
            exact ⟨rfl, K1.out⟩
          | false =>
            rw [hs] at hokk
            have HOK := Lib.hid hokk
            have HS := Lib.hid hs
            clear hokk hs
            go_wp2_with (first | (go_at_call 51; refine (HP.out _).mono ?_; rintro en w1 ⟨rfl, hk1⟩; have x0 := hk1.cell (p := ⟨wr.heap.size + 1, 0, none⟩) (v := .int .i64 l[k].holder) (by go_simp); have x1 := hk1.cell (p := ⟨wr.heap.size + 1, 1, none⟩) (v := .int .i64 l[k].entity) (by go_simp); have x2 := hk1.cell (p := ⟨wr.heap.size + 1, 2, none⟩) (v := .int .i64 l[k].date) (by go_simp); have x3 := hk1.cell (p := ⟨wr.heap.size + 1, 3, none⟩) (v := .int .i64 0) (by go_simp); have HM1 : Hid (VMap holK w1 w.heap.size k (seenH (l.take k))) := Lib.hid (((HW.out.2.alloc _).alloc _).keeps hk1); have hlk : (Instr.lookup 86 (.map (some w.heap.size)) (.agg #[.int .i64 l[k].holder, .int .i64 l[k].entity, .int .i64 l[k].date, .int .i64 0]) false).run Try.prog w1 = .ok (.bool ((l.take k).any (fun a => sameH a l[k]))) w1 := (by have := HM1.out.look Try.underlying86 (fun w => Try.zeroValue4 w) hkok _ rfl; rw [seenH_get] at this; exact this); (try rw [HS.out] at hlk); have K1 := Lib.hid (((HW.out.1.alloc (.cells #[.int .i64 l[k].holder, .int .i64 l[k].entity, .int .i64 l[k].date, .int .i64 l[k].share] 46)).alloc (.cells #[.int .i64 l[k].holder, .int .i64 l[k].entity, .int .i64 l[k].date, .int .i64 0] 46)).trans hk1); clear hk1) | (refine wpList_vstore (K := holK) rfl _ _ _ 86 rfl Try.underlying86 w.heap.size k rfl HM1.out (by unfold maxLen; omega) (keyH l[k]) hkok rfl (.bool true) rfl (seenH (l.take (k + 1))) (by rw [take_snoc _ _ hlt]; exact (seenH_snoc _ _).1) (fun d _ hd => by rw [take_snoc _ _ hlt]; exact (seenH_snoc _ _).2 d hd) ?_; intro w4 hm4 hg4; have HX : Hid (Keeps w w4 ∧ VMap holK w4 w.heap.size (k + 1) (seenH (l.take (k + 1)))) := Lib.hid ⟨Below.grown K1.out hg4 K1.out.size (fun j hj => by cases hj; exact Nat.le_refl _), hm4⟩; clear hm4 hg4))
            go_roundw
            case rel => exact ⟨k + 1, by omega, by go_num, Lib.hid (fun j hj => by
              rcases Nat.lt_succ_iff_lt_or_eq.1 hj with h | rfl
              · exact HN.out j h
              · exact HOK.out), HX⟩
            case measure => simp [intOf]; omega
      · obtain rfl : k = l.length := by omega
        have HR := Lib.hid (hvalidB_rest h1 h2 h3 HN.out)
        have hpr := okH_proper HN.out
        have HPR := Lib.hid hpr
        have HT : Hid (∀ (e d : Int) W, Hols W ao l cap b o → Calls Try.prog 53 #[.slice ao l.length cap, .int .i64 e, .int .i64 d] W fun en w' => en = .returned (.int .i64 (totH l e d)) ∧ Keeps W w') := Lib.hid (fun e d W h => total_any ao l cap b o e d W h hlen (ShB.of hpr) (fun x hx => (HO.out x hx).1))
        have HKW := Lib.hid HW.out.1
        clear hpr HW HN
        go_wp2_with (go_at_call 52; refine (hdates_any ao l cap b o _ (HH.out.keeps HKW.out) hlen (fun x hx => (HO.out x hx).2.2.1)).mono ?_; rintro en w2 ⟨v, xs, rfl, ⟨ao3, cap3, b3, o3, rfl, hs3⟩, hd, hk2⟩; have HD := Lib.hid hd; have HS3 := Lib.hid hs3; have HK2 := Lib.hid (HKW.out.trans hk2); have hcap3 := hs3.cap; have hle3 := hs3.le; clear hd hs3 hk2)
        go_loopw [47] (fun vi wy => ∃ j : Nat, j ≤ xs.length ∧ vi = .int .i64 j ∧ Hid (∀ i (hi : i < xs.length), i < j → ∀ e : Int, 0 ≤ e → e < n → totH l e xs[i] ≤ 10000) ∧ Hid (Keeps w2 wy)) (fun vi _ => xs.length - (intOf vi).toNat)
        case atStart => exact ⟨0, Nat.zero_le _, rfl, Lib.hid (fun i _ h => absurd h (Nat.not_lt_zero _)), Lib.hid (Keeps.refl w2)⟩
        case round =>
          obtain ⟨j, hj, rfl, HJ, HY⟩ := hrel
          obtain ⟨wo, rfl⟩ : ∃ wo : World, wo = wr := ⟨_, rfl⟩
          by_cases hjl : j < xs.length
          · have hSj := HS3.out.keeps HY.out
            have hix3 := hSj.at1 Try.underlying35 Try.sizeOf3 j hjl
            have d0 := hSj.int j hjl
            clear hSj
            go_wp2_with fail
            go_loopw [52] (fun ve wz => ∃ e : Nat, (e : Int) ≤ n ∧ ve = .int .i64 e ∧ Hid (∀ a : Int, 0 ≤ a → a < (e : Int) → totH l a xs[j] ≤ 10000) ∧ Hid (Keeps wo wz)) (fun ve _ => (n - intOf ve).toNat)
            case atStart => exact ⟨0, by omega, rfl, Lib.hid (fun a h1 h2 => by omega), Lib.hid (Keeps.refl wo)⟩
            case round =>
              obtain ⟨e, he, rfl, HE, HZ⟩ := hrel
              by_cases hen : (e : Int) < n
              · by_cases ht : totH l e xs[j] ≤ 10000
                · have ht2 : decide (10000 < totH l (e : Int) xs[j]) = false := decide_eq_false (by omega)
                  have HE2 : Hid (∀ a : Int, 0 ≤ a → a < ((e + 1 : Nat) : Int) → totH l a xs[j] ≤ 10000) := Lib.hid (fun a h1 h2 => by
                    by_cases hae : a = (e : Int)
                    · rw [hae]; exact ht
                    · exact HE.out a h1 (by omega))
                  clear ht
                  go_wp2_with (go_at_call 53; refine (HT.out _ _ _ (HH.out.keeps (HK2.out.trans (HY.out.trans HZ.out)))).mono ?_; rintro en w5 ⟨rfl, hk5⟩; have HZ5 := Lib.hid (HZ.out.trans hk5); clear hk5)
                  go_roundw
                  case rel => exact ⟨e + 1, by omega, by go_num, HE2, HZ5⟩
                  case measure => simp [intOf]; omega
                · have ht2 : decide (10000 < totH l (e : Int) xs[j]) = true := decide_eq_true (by omega)
                  have HQ := Lib.hid (HR.out.trans (sums_bad ht))
                  clear ht
                  go_wp2_with (go_at_call 53; refine (HT.out _ _ _ (HH.out.keeps (HK2.out.trans (HY.out.trans HZ.out)))).mono ?_; rintro en w5 ⟨rfl, hk5⟩; have HZ5 := Lib.hid (HZ.out.trans hk5); clear hk5)
                  go_ret
                  rw [HQ.out]
                  exact ⟨rfl, HK2.out.trans (HY.out.trans HZ5.out)⟩
              · have hee : (e : Int) = n := by omega
                have HJ2 : Hid (∀ i (hi : i < xs.length), i < j + 1 → ∀ e : Int, 0 ≤ e → e < n → totH l e xs[i] ≤ 10000) := Lib.hid (fun i hi hij a ha hb => by
                  rcases Nat.lt_succ_iff_lt_or_eq.1 hij with h | rfl
                  · exact HJ.out i hi h a ha hb
                  · exact HE.out a ha (by omega))
                clear hee
                go_wp2_with fail
                go_roundw
                case rel => exact ⟨j + 1, by omega, by go_num, HJ2, Lib.hid (HY.out.trans HZ.out)⟩
                case measure => simp [intOf]; omega
          · obtain rfl : j = xs.length := by omega
            have HQ := Lib.hid (HR.out.trans (sums_good (fun x hx => by
              have hp := properB_true (HPR.out x hx)
              obtain ⟨i, hi, hie⟩ := List.getElem_of_mem ((HD.out.2 x.date).2 ⟨x, hx, rfl⟩)
              rw [← hie]
              exact HJ.out i hi hi x.entity hp.2.2.1 hp.2.2.2.1)))
            go_wp2_with fail
            go_ret
            rw [HQ.out]
            exact ⟨rfl, HK2.out.trans HY.out⟩
  · have HQ := Lib.hid (hvalidB_size (n := n) (l := l) hs)
    by_cases h1 : n < 1
    · go_enter Try.func37, Try.ntmps37
      go_wp2
      go_ret
      rw [HQ.out]
      exact ⟨rfl, Keeps.refl w⟩
    · by_cases h2 : 12 < n
      · go_enter Try.func37, Try.ntmps37
        go_wp2
        go_ret
        rw [HQ.out]
        exact ⟨rfl, Keeps.refl w⟩
      · have h3 : 200 < l.length := by omega
        clear hs
        go_enter Try.func37, Try.ntmps37
        go_wp2
        go_ret
        rw [HQ.out]
        exact ⟨rfl, Keeps.refl w⟩
end Go.Proofs.Ytkpdimbblcmnaaa
