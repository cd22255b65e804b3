/- mapping.Move: the walk. -/
import Derived.Test.YtppjjmjdiccloabRMove
import Derived.Test.YtppjjmjdiccloabKeysI
import Derived.Test.YtppjjmjdiccloabAt
namespace Go.Proofs.Ytppjjmjdiccloab
open Go.RowKit
set_option linter.unusedSimpArgs false
set_option linter.unusedVariables false

def balF (g : List Bal) (x : Int) : Option Value := (balOf g x).map (Value.int .i64)
theorem balF_put {g : List Bal} (ha : AscB g) (acc n : Int) : balF (putS g acc n) acc = some (.int .i64 ((balOf g acc).getD 0 + n)) ∧ ∀ c, c ≠ acc → balF (putS g acc n) c = balF g c := by
  unfold balF
  refine ⟨by rw [balOf_putS _ _ _ _ ha, if_pos rfl]; rfl, fun c hc => by rw [balOf_putS _ _ _ _ ha, if_neg hc]⟩
theorem balF_getD (g : List Bal) (x : Int) : (balF g x).getD (.int .i64 0) = .int .i64 ((balOf g x).getD 0) := by
  unfold balF; cases balOf g x <;> rfl
theorem balOf_at {g : List Bal} (ha : AscB g) {j : Nat} (hj : j < g.length) : balOf g g[j].acc = some g[j].amount := by
  unfold balOf
  rw [(List.find?_eq_some_iff_getElem (xs := g) (b := g[j])).2 ⟨by simp, j, hj, rfl, fun i hi => by
    have := (List.pairwise_iff_getElem.1 ha) i j (by omega) hj hi
    simp; omega⟩]
  rfl
theorem balOf_bd {g : List Bal} {k : Nat} (h : Coll g k) (x : Int) : -((k : Int) * 1000000000000) ≤ (balOf g x).getD 0 ∧ (balOf g x).getD 0 ≤ (k : Int) * 1000000000000 := by
  unfold balOf
  cases hf : g.find? (fun y => y.acc == x) with
  | none => simp; omega
  | some y => exact h.bd y (List.mem_of_find?_eq_some hf)
theorem balOf_isSome {g : List Bal} (x : Int) : (balF g x).isSome = true ↔ x ∈ g.map Bal.acc := by
  unfold balF balOf
  cases hf : g.find? (fun y => y.acc == x) with
  | none =>
    rw [List.find?_eq_none] at hf
    simp
    intro y hy e
    exact hf y hy (by simpa using e)
  | some y =>
    have h1 := List.mem_of_find?_eq_some hf
    have h2 := List.find?_some hf
    simp only [Option.map_some, Option.isSome_some, true_iff, List.mem_map]
    exact ⟨y, h1, by simpa using h2⟩
theorem keys_are {g : List Bal} {xs : List Int} (ha : AscB g) (hok : ∀ x ∈ g, I64 x.acc) (h : KeysAre (balF g) xs) : xs = g.map Bal.acc := by
  refine h.1.eq ?_ fun x => ?_
  · unfold Asc
    rw [List.pairwise_map]
    exact ha
  · rw [h.2, balOf_isSome]
    constructor
    · exact fun h => h.2
    · intro hx
      obtain ⟨y, hy, rfl⟩ := List.mem_map.1 hx
      exact ⟨hok y hy, hx⟩
theorem atS_to {c : List Acc} {l : List Lnk} {code day : Int} (h : (atS c l code day).2 = 0) (hok : ∀ x ∈ l, I64 x.to) : I64 (atS c l code day).1 := by
  unfold atS at *
  split at h
  · simp at h
  · rename_i h1
    rw [if_neg h1]
    split at h
    · simp at h
    · rename_i h2
      rw [if_neg h2]
      cases hb : bestL (cands l code day) with
      | none => rw [hb] at h; simp at h
      | some m =>
        have hm := bestL_mem hb
        exact hok m (List.mem_filter.1 hm).1
theorem putS_accs {g : List Bal} {acc n : Int} (h : ∀ x ∈ g, I64 x.acc) (ha : I64 acc) : ∀ x ∈ putS g acc n, I64 x.acc := fun x hx => by
  rcases putS_mem hx with e | e
  · rw [e]; exact ha
  · exact h x e

set_option maxRecDepth 100000 in
set_option maxHeartbeats 1000000 in
theorem move_any (en : Ent) (v : Value) (l : List Bal) (ao : Option Addr) (cap b o : Nat) (day : Int) (w : World) (HE : EntV w v en) (H : Bals w ao l cap b o) (hlen : en.links.length ≤ 1000) (hll : l.length ≤ 100) (hto : ∀ x ∈ en.links, I64 x.to) :
    Calls Try.prog 18 #[v, .slice ao l.length cap, .int .i64 day] w (OutBal w (moveS en.chart en.links l day)) := by
  have HV := Lib.hid HE
  have hcap := Sl.cap H
  have hle := Sl.le H
  obtain ⟨cv, lv, rfl, ⟨aoC, capC, bC, oC, rfl, HC⟩, ⟨aoL, capL, bL, oL, rfl, HL⟩⟩ := HE
  have HH := Lib.hid H
  have HTO := Lib.hid hto
  have hmm := @run_makeMap Try.prog
  clear HC HL H hto
  go_enter Try.func18, Try.ntmps18
  go_wp2_with fail
  obtain ⟨W1, hW1⟩ : ∃ W1, W1 = w.alloc (.cells #[.string en.name, .string en.cur, .slice aoC en.chart.length capC, .slice aoL en.links.length capL, .bool en.joint] 25) := ⟨_, rfl⟩
  have HK1 : Hid (Keeps w W1) := Lib.hid (by rw [hW1]; exact (Keeps.refl w).alloc _)
  have HE1 : Hid (EntB W1 w.heap.size en aoC capC aoL capL) := Lib.hid (by rw [hW1]; exact ⟨by go_simp, by go_simp, by go_simp, by go_simp, by go_simp⟩)
  rw [← hW1]
  clear hW1
  go_loopw [21] (fun vi wr => ∃ k : Nat, k ≤ l.length ∧ vi = .int .i64 k ∧ Hid (∀ j, j < k → okAt l j = true) ∧ Hid (Keeps W1 wr)) (fun vi _ => l.length - (intOf vi).toNat)
  case atStart => exact ⟨0, Nat.zero_le _, rfl, Lib.hid (fun j h => absurd h (Nat.not_lt_zero _)), Lib.hid (Keeps.refl _)⟩
  case round =>
    obtain ⟨k, hk, rfl, HN, HW⟩ := hrel
    by_cases hlt : k < l.length
    · have HLk := HH.out.keeps (HK1.out.trans HW.out)
      have hix := Sl.at HLk Try.underlying41 Try.sizeOf65 k hlt
      have c0 := HLk.cell Bal.len k hlt 0 _ rfl
      have c1 := HLk.cell Bal.len k hlt 1 _ rfl
      simp only [Nat.add_zero] at c0
      have hbl := World.block_lt_of_cell? _ _ c0
      cases hok : okAt l k with
      | true =>
        have HN2 : Hid (∀ j, j < k + 1 → okAt l j = true) := Lib.hid (fun j h => by
          rcases Nat.lt_succ_iff_lt_or_eq.1 h with h | rfl
          · exact HN.out j h
          · exact hok)
        cases k with
        | zero =>
          rw [okAt_zero hlt] at hok
          have HQ : Hid (∀ W : World, Calls Try.prog 33 #[.int .i64 l[0].amount] W fun e w' => e = .returned (.bool true) ∧ w' = W) := Lib.hid (fun W => by have := amount_any l[0].amount W; rw [hok] at this; exact this)
          simp only [Nat.zero_mul, Nat.add_zero, Int.natCast_zero] at hix c0 c1
          clear hok HLk
          go_wp2_with fail
          go_quiet ((go_at_call 33; first | exact Calls.quiet_of_same (HQ.out _) | exact quiet_add_same (HQ.out _)))
          go_wp2_with fail
          go_roundw
          case rel => exact ⟨1, by omega, by go_num, HN2, Lib.hid ((HW.out.alloc _).drewN _)⟩
          case measure => simp [intOf]; omega
        | succ k =>
          rw [okAt_succ hlt] at hok
          simp only [Bool.and_eq_true, decide_eq_true_eq] at hok
          have HQ : Hid (∀ W : World, Calls Try.prog 33 #[.int .i64 l[k + 1].amount] W fun e w' => e = .returned (.bool true) ∧ w' = W) := Lib.hid (fun W => by have := amount_any l[k + 1].amount W; rw [hok.1] at this; exact this)
          have hk2 : k < l.length := by omega
          have hix2 := Sl.at HLk Try.underlying41 Try.sizeOf65 k hk2
          have d0 := HLk.cell Bal.len k hk2 0 _ rfl
          simp only [Nat.add_zero] at d0
          have e1 : decide (l[k + 1].acc ≤ l[k].acc) = false := by have := hok.2; simp; omega
          have hw1 : IntKind.i64.wrap (k : Int) = (k : Int) := IntWalk.i64_in _ (by omega)
          rw [show (((k + 1 : Nat)) : Int) = (k : Int) + 1 from by omega] at hix
          have e2 : decide ((0 : Int) < (k : Int) + 1) = true := decide_eq_true (by omega)
          clear hok HLk
          go_wp2_with fail
          go_quiet ((go_at_call 33; first | exact Calls.quiet_of_same (HQ.out _) | exact quiet_add_same (HQ.out _)))
          go_wp2_with fail
          go_roundw
          case rel => exact ⟨k + 1 + 1, by omega, by go_num, HN2, Lib.hid ((HW.out.alloc _).drewN _)⟩
          case measure => simp [intOf]; omega
      | false =>
        have HB := Lib.hid (moveS_1 (c := en.chart) (l := en.links) (day := day) (ascB_bad hlt hok))
        cases k with
        | zero =>
          rw [okAt_zero hlt] at hok
          have HQ : Hid (∀ W : World, Calls Try.prog 33 #[.int .i64 l[0].amount] W fun e w' => e = .returned (.bool false) ∧ w' = W) := Lib.hid (fun W => by have := amount_any l[0].amount W; rw [hok] at this; exact this)
          simp only [Nat.zero_mul, Nat.add_zero, Int.natCast_zero] at hix c0 c1
          clear hok HLk
          go_wp2_with fail
          go_quiet ((go_at_call 33; first | exact Calls.quiet_of_same (HQ.out _) | exact quiet_add_same (HQ.out _)))
          go_wp2
          go_ret2
          exact OutBal.nil HB.out (HK1.out.trans ((HW.out.alloc _).drewN _))
        | succ k =>
          rw [okAt_succ hlt] at hok
          simp only [Bool.and_eq_false_iff, decide_eq_false_iff_not] at hok
          have hk2 : k < l.length := by omega
          have hix2 := Sl.at HLk Try.underlying41 Try.sizeOf65 k hk2
          have d0 := HLk.cell Bal.len k hk2 0 _ rfl
          simp only [Nat.add_zero] at d0
          have hw1 : IntKind.i64.wrap (k : Int) = (k : Int) := IntWalk.i64_in _ (by omega)
          rw [show (((k + 1 : Nat)) : Int) = (k : Int) + 1 from by omega] at hix
          have e2 : decide ((0 : Int) < (k : Int) + 1) = true := decide_eq_true (by omega)
          cases hm : amtB l[k + 1].amount with
          | false =>
            have HQ : Hid (∀ W : World, Calls Try.prog 33 #[.int .i64 l[k + 1].amount] W fun e w' => e = .returned (.bool false) ∧ w' = W) := Lib.hid (fun W => by have := amount_any l[k + 1].amount W; rw [hm] at this; exact this)
            clear hok hm HLk
            go_wp2_with fail
            go_quiet ((go_at_call 33; first | exact Calls.quiet_of_same (HQ.out _) | exact quiet_add_same (HQ.out _)))
            go_wp2
            go_ret2
            exact OutBal.nil HB.out (HK1.out.trans ((HW.out.alloc _).drewN _))
          | true =>
            have HQ : Hid (∀ W : World, Calls Try.prog 33 #[.int .i64 l[k + 1].amount] W fun e w' => e = .returned (.bool true) ∧ w' = W) := Lib.hid (fun W => by have := amount_any l[k + 1].amount W; rw [hm] at this; exact this)
            have e1 : decide (l[k + 1].acc ≤ l[k].acc) = true := by
              rcases hok with h | h
              · rw [hm] at h; cases h
              · simp; omega
            clear hok hm HLk
            go_wp2_with fail
            go_quiet ((go_at_call 33; first | exact Calls.quiet_of_same (HQ.out _) | exact quiet_add_same (HQ.out _)))
            go_wp2
            go_ret2
            exact OutBal.nil HB.out (HK1.out.trans ((HW.out.alloc _).drewN _))
    · obtain rfl : k = l.length := by omega
      have hasc := ascB_good HN.out
      have HAM := Lib.hid (ascB_amt hasc)
      have HMF := Lib.hid (fun (k : Nat) (hk : k < l.length) h1 hf => moveS_f (c := en.chart) (l := en.links) (day := day) hasc hk h1 hf)
      have HML := Lib.hid (moveS_l (c := en.chart) (l := en.links) (day := day) hasc)
      clear hasc
      obtain ⟨wo, rfl⟩ : ∃ wo : World, wo = wr := ⟨_, rfl⟩
      have hz1 := HW.out.size
      go_wp2_with fail
      go_loopw [49] (fun vi wr => ∃ (k : Nat) (g : List Bal), k ≤ l.length ∧ g.length ≤ k ∧ vi = .int .i64 k ∧ Hid ((runG en.chart en.links day (l.take k)).2 = 0 ∧ (runG en.chart en.links day (l.take k)).1 = g) ∧ Hid (Coll g k ∧ ∀ x ∈ g, I64 x.acc) ∧ Hid (Keeps wo wr ∧ VMap intK wr wo.heap.size k (balF g))) (fun vi _ => l.length - (intOf vi).toNat)
      case atStart => exact ⟨0, [], Nat.zero_le _, Nat.le_refl _, rfl, Lib.hid ⟨rfl, rfl⟩, Lib.hid ⟨⟨List.Pairwise.nil, Nat.le_refl _, by simp⟩, by simp⟩, Lib.hid ⟨(Keeps.refl wo).alloc _, VMap.made intK wo⟩⟩
      case round =>
        obtain ⟨k, g, hk, hgk, rfl, HR, HG, HX⟩ := hrel
        have HK2 := Lib.hid ((HK1.out.trans HW.out).trans HX.out.1)
        by_cases hlt : k < l.length
        · have HLk := HH.out.keeps HK2.out
          have hix := Sl.at HLk Try.underlying41 Try.sizeOf65 k hlt
          have c0 := HLk.cell Bal.len k hlt 0 _ rfl
          have c1 := HLk.cell Bal.len k hlt 1 _ rfl
          simp only [Nat.add_zero] at c0
          have hbl := World.block_lt_of_cell? _ _ c0
          have HE2 := Lib.hid (HE1.out.keeps (HW.out.trans HX.out.1))
          obtain ⟨a0, a1, a2, a3, a4⟩ := HE2.out
          have hba := World.block_lt_of_cell? _ _ a0
          clear HLk
          by_cases hf : (atS en.chart en.links l[k].acc day).2 = 0
          · have ef : ((atS en.chart en.links l[k].acc day).2 != 0) = false := by simp [hf]
            have hn := amtB_true.1 (HAM.out _ (List.getElem_mem hlt))
            have HST := Lib.hid (runG_step hlt HR.out.1 hf)
            have HT64 := Lib.hid (atS_to hf HTO.out)
            have HG2 : Hid (Coll (putS g (atS en.chart en.links l[k].acc day).1 l[k].amount) (k + 1) ∧ ∀ x ∈ putS g (atS en.chart en.links l[k].acc day).1 l[k].amount, I64 x.acc) := Lib.hid ⟨HG.out.1.put _ _ hn, putS_accs HG.out.2 HT64.out⟩
            have hbd := balOf_bd HG.out.1 (atS en.chart en.links l[k].acc day).1
            have hpl := putS_len g (atS en.chart en.links l[k].acc day).1 l[k].amount
            have HPUT := Lib.hid (balF_put HG.out.1.asc (atS en.chart en.links l[k].acc day).1 l[k].amount)
            have hbd2 : -1000000000000000 ≤ (balOf g (atS en.chart en.links l[k].acc day).1).getD 0 ∧ (balOf g (atS en.chart en.links l[k].acc day).1).getD 0 ≤ 1000000000000000 := by omega
            clear hf hbd
            go_wp2_with (first | (go_at_call 13; refine (at_any en _ l[k].acc day _ (HV.out.keeps (HK2.out.alloc _)) hlen).mono ?_; rintro e w2 ⟨rfl, hk2⟩; have b0 := hk2.cell (p := ⟨wr.heap.size, 0, none⟩) (v := .int .i64 l[k].acc) (by go_simp); have b1 := hk2.cell (p := ⟨wr.heap.size, 1, none⟩) (v := .int .i64 l[k].amount) (by go_simp); have HM2 : Hid (VMap intK w2 wo.heap.size k (balF g)) := Lib.hid ((HX.out.2.alloc _).keeps hk2); have HKW2 : Hid (Keeps wo w2) := Lib.hid ((HX.out.1.alloc _).trans hk2); have hlk : (Instr.lookup 66 (.map (some wo.heap.size)) (.int .i64 (atS en.chart en.links l[k].acc day).1) false).run Try.prog w2 = .ok (.int .i64 ((balOf g (atS en.chart en.links l[k].acc day).1).getD 0)) w2 := (by have := HM2.out.look Try.underlying66 (fun w => Try.zeroValue3 w) (a := (atS en.chart en.links l[k].acc day).1) HT64.out w2 rfl; rw [balF_getD] at this; exact this); clear hk2) | (refine wpList_vstore (K := intK) rfl _ _ _ 66 rfl Try.underlying66 wo.heap.size k rfl HM2.out (by unfold maxLen; omega) (atS en.chart en.links l[k].acc day).1 HT64.out rfl (.int .i64 ((balOf g (atS en.chart en.links l[k].acc day).1).getD 0 + l[k].amount)) rfl (balF (putS g (atS en.chart en.links l[k].acc day).1 l[k].amount)) HPUT.out.1 (fun d _ hd => HPUT.out.2 d hd) ?_; intro w3 hm3 hg3; have HX3 : Hid (Keeps wo w3 ∧ VMap intK w3 wo.heap.size (k + 1) (balF (putS g (atS en.chart en.links l[k].acc day).1 l[k].amount))) := Lib.hid ⟨Below.grown HKW2.out hg3 HKW2.out.size (fun j hj => by cases hj; exact Nat.le_refl _), hm3⟩; clear hm3 hg3))
            go_roundw
            case rel => exact ⟨k + 1, putS g (atS en.chart en.links l[k].acc day).1 l[k].amount, by omega, by omega, by go_num, Lib.hid (by rw [HST.out, HR.out.2]; exact ⟨rfl, rfl⟩), HG2, HX3⟩
            case measure => simp [intOf]; omega
          · have ef : ((atS en.chart en.links l[k].acc day).2 != 0) = true := by simp [hf]
            have HM := Lib.hid (HMF.out k hlt HR.out.1 hf)
            clear hf
            go_wp2_with (go_at_call 13; refine (at_any en _ l[k].acc day _ (HV.out.keeps (HK2.out.alloc _)) hlen).mono ?_; rintro e w2 ⟨rfl, hk2⟩)
            go_ret2
            exact OutBal.nil HM.out ((HK2.out.alloc _).trans hk2)
        · obtain rfl : k = l.length := by omega
          have hr := HR.out
          rw [List.take_length] at hr
          have HRES := Lib.hid (HML.out hr.1)
          rw [hr.2] at HRES
          have hg100 : g.length ≤ 100 := by omega
          clear hr HR HML HMF HAM HH HV HE1
          obtain ⟨wm, rfl⟩ : ∃ wm : World, wm = wr := ⟨_, rfl⟩
          go_wp2_with (first | (go_at_call 34; refine (keysI_any _ _).mono ?_; rintro e w2 ⟨rfl, rfl⟩) | (go_at_call 31; refine (sortedI_any wo.heap.size l.length _ _ _ (by go_simp) (HX.out.2.alloc _) (by omega)).mono ?_; rintro e w3 ⟨v3, xs, rfl, hv3, hks, hk3⟩; obtain rfl := keys_are HG.out.1.asc HG.out.2 hks; obtain ⟨ao3, cap3, b3, o3, rfl, hs3⟩ := hv3; have HS3 := Lib.hid hs3; have hcap3 := hs3.cap; have hle3 := hs3.le; have HK3 : Hid (Keeps w w3) := Lib.hid ((HK2.out.alloc _).trans hk3); have HM3 : Hid (VMap intK w3 wo.heap.size l.length (balF g)) := Lib.hid ((HX.out.2.alloc _).keeps hk3); clear hs3 hk3 hks))
          have hml : (g.map Bal.acc).length = g.length := List.length_map _
          have HML2 := Lib.hid hml
          have hm1 : (g.map Bal.acc).length ≤ g.length := by omega
          have hm2 : g.length ≤ (g.map Bal.acc).length := by omega
          clear hml
          go_loopw [15, 75] (fun vs vj wr => ∃ (j m : Nat), j ≤ g.length ∧ m ≤ j ∧ vj = .int .i64 j ∧ Hid (∀ i (hi : i < g.length), i < j → amtB g[i].amount = true) ∧ Hid ((nz (g.take j)).length = m ∧ Keeps w3 wr ∧ wr.ownsRow w3.heap.size 65 2 vs m ((nz (g.take j)).flatMap Bal.cells))) (fun _ vj _ => g.length - (intOf vj).toNat)
          case atStart => exact ⟨0, 0, Nat.zero_le _, Nat.le_refl _, rfl, Lib.hid (fun i _ h => absurd h (Nat.not_lt_zero _)), Lib.hid ⟨rfl, Keeps.refl _, World.ownsRow_nil _ _ _ _⟩⟩
          case round =>
            obtain ⟨j, m, hj, hmj, rfl, HN, HX⟩ := hrel
            by_cases hjl : j < g.length
            · have HSj := HS3.out.keeps HX.out.2.1
              have hix := HSj.at1 Try.underlying33 Try.sizeOf3 j (by omega)
              rw [HML2.out] at hix
              have d0 : wr.cell? ⟨b3, o3 + j, none⟩ = some (.int .i64 g[j].acc) := by have := HSj.int j (by omega); rw [List.getElem_map] at this; exact this
              have HT : Hid (nz (g.take (j + 1)) = if g[j].amount = 0 then nz (g.take j) else nz (g.take j) ++ [g[j]]) := Lib.hid (by rw [List.take_succ_eq_append_getElem hjl, nz_snoc])
              have HI64 := Lib.hid (HG.out.2 _ (List.getElem_mem hjl))
              have hlk : (Instr.lookup 66 (.map (some wo.heap.size)) (.int .i64 g[j].acc) false).run Try.prog wr = .ok (.int .i64 g[j].amount) wr := by
                have := (HM3.out.keeps HX.out.2.1).look Try.underlying66 (fun w => Try.zeroValue3 w) (a := g[j].acc) HI64.out wr rfl
                rw [balF_getD, balOf_at HG.out.1.asc hjl] at this; exact this
              clear HSj
              cases hm : amtB g[j].amount with
              | false =>
                have HR2 := Lib.hid (HRES.out.trans (lastS_bad hjl hm))
                have HQ : Hid (∀ W : World, Calls Try.prog 33 #[.int .i64 g[j].amount] W fun e w' => e = .returned (.bool false) ∧ w' = W) := Lib.hid (fun W => by have := amount_any g[j].amount W; rw [hm] at this; exact this)
                clear hm
                go_wp2_with (go_at_call 33; refine (HQ.out _).mono ?_; rintro e w4 ⟨rfl, hw4⟩; subst hw4)
                go_ret2
                exact OutBal.nil HR2.out (HK3.out.trans HX.out.2.1)
              | true =>
                have HN2 : Hid (∀ i (hi : i < g.length), i < j + 1 → amtB g[i].amount = true) := Lib.hid (fun i hi h => by
                  rcases Nat.lt_succ_iff_lt_or_eq.1 h with h | rfl
                  · exact HN.out i hi h
                  · exact hm)
                have HQ : Hid (∀ W : World, Calls Try.prog 33 #[.int .i64 g[j].amount] W fun e w' => e = .returned (.bool true) ∧ w' = W) := Lib.hid (fun W => by have := amount_any g[j].amount W; rw [hm] at this; exact this)
                clear hm
                by_cases hz : g[j].amount = 0
                · have ez : (g[j].amount != 0) = false := by simp [hz]
                  rw [if_pos hz] at HT
                  clear hz
                  go_wp2_with (go_at_call 33; refine (HQ.out _).mono ?_; rintro e w4 ⟨rfl, hw4⟩; subst hw4)
                  go_roundw
                  case rel => exact ⟨j + 1, m, by omega, by omega, by go_num, HN2, Lib.hid (by rw [HT.out]; exact HX.out)⟩
                  case measure => simp [intOf]; omega
                · have ez : (g[j].amount != 0) = true := by simp [hz]
                  rw [if_neg hz] at HT
                  clear hz
                  go_wp2_with (first | (go_at_call 33; refine (HQ.out _).mono ?_; rintro e w4 ⟨rfl, hw4⟩; subst hw4) | (at_builtin; refine wpList_appx elemBal rfl _ _ rfl w3 _ _ _ rfl w3.heap.size HX.out.2.2 HX.out.2.1 HX.out.2.1.size [.int .i64 g[j].acc, .int .i64 g[j].amount] _ 1 rfl rfl rfl (by intro u hu; simp at hu; rcases hu with rfl | rfl <;> rfl) (by omega) (by omega) ?_; intro v5 w5 hown5 hb5 hsz5; have HY : Hid ((nz (g.take (j + 1))).length = m + 1 ∧ Keeps w3 w5 ∧ w5.ownsRow w3.heap.size 65 2 v5 (m + 1) ((nz (g.take (j + 1))).flatMap Bal.cells)) := (Lib.hid ⟨by rw [HT.out, List.length_append, HX.out.1]; rfl, hb5, by rw [HT.out, List.flatMap_append]; exact hown5⟩); clear hown5 hb5 hsz5))
                  go_roundw
                  case rel => exact ⟨j + 1, m + 1, by omega, by omega, by go_num, HN2, HY⟩
                  case measure => simp [intOf]; omega
            · obtain rfl : j = g.length := by omega
              have HR2 := Lib.hid (HRES.out.trans (lastS_good fun k hk => HN.out k hk hk))
              have hx := HX.out
              rw [List.take_length] at hx
              have HROW : Hid (wr.ownsRow w3.heap.size 65 2 u15 (nz g).length ((nz g).flatMap Bal.cells)) := Lib.hid (by rw [hx.1]; exact hx.2.2)
              obtain ⟨ao5, cap5, b5, hv5, hs5⟩ := Recs.own HROW.out
              subst hv5
              have HKX := Lib.hid (HK3.out.trans hx.2.1)
              have HS5 := Lib.hid hs5
              clear hx hs5 HX HROW HN HRES
              go_wp2
              go_ret2
              rw [HR2.out]
              exact ⟨ao5, cap5, b5, 0, rfl, HS5.out, HKX.out⟩
end Go.Proofs.Ytppjjmjdiccloab
