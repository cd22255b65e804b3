/- holding.Total: the walk. -/
import Derived.Test.YtkpdimbblcmnaaaKHolP
import Derived.Test.YtkpdimbblcmnaaaHolAtW
import Derived.Maps.RangeWalk
namespace Go.Proofs.Ytkpdimbblcmnaaa
open Go.RowKit Go.Maps
set_option linter.unusedSimpArgs false
set_option linter.unusedVariables false

theorem ranges_keeps {P : Program} {k : TypeId} {w w' : World} {b r n : Nat} {D : DataW Value} {left : Lit → Bool} {cnt : Nat} (h : w.ranges P k hold b r n D left cnt) (hk : Keeps w w') : w'.ranges P k hold b r n D left cnt := by
  obtain ⟨es, clock, since, seen, c0, hb, F, hs, hD, hr, rest⟩ := h
  exact ⟨es, clock, since, seen, c0, (hk.block b (Array.getElem?_eq_some_iff.1 hb).1).trans hb, F, hs, hD, (hk.block r (Array.getElem?_eq_some_iff.1 hr).1).trans hr, rest⟩
theorem hold_inv (v : Value) (y : DataW Value × List MemPlace) (_ : hold v = some y) : ∃ c : Value, v = c := ⟨v, rfl⟩
theorem key_inv (key : Value) (kl : Lit) (h : keyOf Try.prog 3 key = some kl) : ∃ x, key = .int .i64 x := by
  obtain ⟨x, h1, _⟩ := Maps.keyOf_int_inv Try.underlying3 h
  exact ⟨x, h1⟩
/-- How the loop over the holders stands. -/
structure TotI (l : List Hol) (e d : Int) (S : Int) (left : Lit → Bool) : Prop where
  sum : S = doneAt l e d (firstsH l) left
  keys : ∀ x, I64 x → left (.int .i64 x) = true → x ∈ firstsH l
set_option maxRecDepth 100000 in
set_option maxHeartbeats 4000000 in
theorem total_any (ao : Option Addr) (l : List Hol) (cap b o : Nat) (e d : Int) (w : World) (H : Hols w ao l cap b o) (hl : l.length ≤ 1000) (hb : ShB l) (h64 : ∀ x ∈ l, I64 x.holder) :
    Calls Try.prog 53 #[.slice ao l.length cap, .int .i64 e, .int .i64 d] w fun en w' => en = .returned (.int .i64 (totH l e d)) ∧ Keeps w w' := by
  have hcap := Sl.cap H
  have hle := Sl.le H
  have HH := Lib.hid H
  have HB := Lib.hid hb
  have H64 := Lib.hid h64
  have hmm := @run_makeMap Try.prog
  have hfl : (firstsH l).length ≤ 1000 := Nat.le_trans (firstsH_len l) hl
  clear H hb h64
  go_enter Try.func53, Try.ntmps53
  go_wp2_with fail
  go_loopw [15] (fun vi wr => ∃ k : Nat, k ≤ l.length ∧ vi = .int .i64 k ∧ Hid (Keeps w wr ∧ VMap intK wr w.heap.size k (hasH (l.take k)))) (fun vi _ => l.length - (intOf vi).toNat)
  case atStart => exact ⟨0, Nat.zero_le _, rfl, Lib.hid ⟨(Keeps.refl w).alloc _, by rw [List.take_zero, hasH_nil]; exact VMap.made intK w⟩⟩
  case round =>
    obtain ⟨k, hk, rfl, HW⟩ := hrel
    by_cases hlt : k < l.length
    · have HL := HH.out.keeps HW.out.1
      have hix := Sl.at HL Try.underlying23 Try.sizeOf46 k hlt
      have c0 := HL.cell Hol.len k hlt 0 _ rfl
      have c1 := HL.cell Hol.len k hlt 1 _ rfl
      have c2 := HL.cell Hol.len k hlt 2 _ rfl
      have c3 := HL.cell Hol.len k hlt 3 _ rfl
      simp only [Nat.add_zero] at c0
      have hk64 := H64.out _ (List.getElem_mem hlt)
      have HK := Lib.hid hk64
      clear HL hk64
      go_wp2_with (refine wpList_vstore (K := intK) rfl _ _ _ 91 rfl Try.underlying91 w.heap.size k rfl (HW.out.2.alloc _) (by unfold maxLen; omega) l[k].holder HK.out rfl (.bool true) rfl (hasH (l.take (k + 1))) (by rw [take_snoc _ _ hlt]; exact (hasH_snoc _ _).1) (fun d _ hd => by rw [take_snoc _ _ hlt]; exact (hasH_snoc _ _).2 d hd) ?_; intro w4 hm4 hg4; have HX : Hid (Keeps w w4 ∧ VMap intK w4 w.heap.size (k + 1) (hasH (l.take (k + 1)))) := Lib.hid ⟨Below.grown (HW.out.1.alloc _) hg4 (HW.out.1.alloc _).size (fun j hj => by cases hj; exact Nat.le_refl _), hm4⟩; clear hm4 hg4)
      go_roundw
      case rel => exact ⟨k + 1, by omega, by go_num, HX⟩
      case measure => simp [intOf]; omega
    · obtain rfl : k = l.length := by omega
      obtain ⟨wo, rfl⟩ : ∃ wo : World, wo = wr := ⟨_, rfl⟩
      obtain ⟨hkw, D, hown, h2⟩ := HW.out
      rw [List.take_length] at h2
      have HD := Lib.hid h2
      have HKW := Lib.hid hkw
      clear h2 hkw HW
      go_wp2_with (first | (at_range; refine wpList_range_own _ rfl _ 91 rfl 3 4 intK.keyed Try.underlying91 hold w.heap.size l.length D rfl hown ?_; intro w0 hrg0 hg0 hs0; have HR0 := Lib.hid (And.intro hrg0 (show Keeps w w0 from Below.grown HKW.out hg0 HKW.out.size (fun j hj => by cases hj))); clear hrg0 hg0 hs0))
      go_frame
      go_loopw [10] (fun vs wy => ∃ (S : Int) (left : Lit → Bool) (cnt : Nat), vs = .int .i64 S ∧ -1000000000000 ≤ S ∧ S ≤ 1000000000000 ∧ Hid (wy.ranges Try.prog 3 hold w.heap.size wo.heap.size l.length D left cnt ∧ TotI l e d S left ∧ Keeps w wy)) (fun _ wy => wy.rangeLeft w.heap.size wo.heap.size)
      case atStart => exact ⟨0, Maps.has D, Maps.size D, rfl, by omega, by omega, Lib.hid ⟨HR0.out.1, ⟨(doneAt_start (fun x hx => by
        obtain ⟨y, hy, rfl⟩ := (firstsH_mem l x).1 hx
        have h3 := (HD.out y.holder (H64.out y hy)).1
        exact h3.trans ((hasH_some l _).2 hx))).symm, fun x hx hlx => by
        have h3 := (HD.out x hx).1
        exact (hasH_some l x).1 (h3.symm.trans hlx)⟩, HR0.out.2⟩⟩
      case round =>
        obtain ⟨S, left, cnt, rfl, hS1, hS2, HI⟩ := hrel
        go_wp2_with (first | (at_next; refine wpList_next_ranges _ rfl _ rfl 3 intK.keyed hold (fun x : Int => Value.int .i64 x) (fun c : Value => c) key_inv hold_inv w.heap.size wo.heap.size l.length D left cnt rfl HI.out.1 ?_ ?_))
        · intro hc0 hl0
          have HQ : Hid (totH l e d = S) := Lib.hid (by rw [HI.out.2.1.sum, doneAt_end hl0]; rfl)
          go_wp2_with fail
          go_ret
          rw [HQ.out]
          exact ⟨rfl, HI.out.2.2⟩
        · intro x c kl y yb w1 cnt1 hkey hlx hRc hat hrg1 hlt1 hg1 hs1 hen
          obtain ⟨x', e1, rfl, hwf⟩ := Maps.keyOf_int_inv Try.underlying3 hkey
          obtain rfl : x = x' := by simpa using e1
          have hx64 := wf64.1 hwf
          have hxm := HI.out.2.1.keys x hx64 hlx
          have hstep := doneAt_step (l := l) (e := e) (d := d) hlx (firstsH_nodup l) hxm
          rw [← HI.out.2.1.sum] at hstep
          have hbd := doneAt_bd HB.out e d (firstsH l) (fun z => left z && !z.sameKey (.int .i64 x))
          rw [hstep] at hbd
          have hS3 : -1000000000000 ≤ S + atH l x e d := by omega
          have hS4 : S + atH l x e d ≤ 1000000000000 := by omega
          have HST := Lib.hid hstep
          have hk1 : Keeps w w1 := Below.grown HI.out.2.2 hg1 HI.out.2.2.size (fun j hj => by cases hj; exact Nat.le_trans HKW.out.size (Nat.le_refl _))
          have HK1 := Lib.hid hk1
          have HRG := Lib.hid hrg1
          have HLT := Lib.hid hlt1
          have hab := atH_bd HB.out x e d
          obtain ⟨ha1, ha2⟩ := hab
          clear hkey hlx hRc hat hrg1 hlt1 hg1 hs1 hwf hx64 hxm hstep hbd hk1 e1
          go_wp2_with (first | (go_at_call 56; refine (hat_any ao l cap b o x e d _ (HH.out.keeps HK1.out)).mono ?_; rintro en w2 ⟨rfl, hk2⟩; have HK2 := Lib.hid hk2; clear hk2))
          go_roundw
          case rel => exact ⟨_, _, cnt1, rfl, by omega, by omega, Lib.hid ⟨ranges_keeps HRG.out HK2.out, ⟨HST.out.symm, fun z hz hlz => HI.out.2.1.keys z hz (by
            simp only [Bool.and_eq_true] at hlz; exact hlz.1)⟩, HK1.out.trans HK2.out⟩⟩
          case measure =>
            rw [(ranges_keeps HRG.out HK2.out).left_eq, HI.out.1.left_eq]; exact HLT.out
end Go.Proofs.Ytkpdimbblcmnaaa
