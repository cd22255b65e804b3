/- The reference's Move: the walk. -/
import Derived.Test.YtppjjmjdiccloabPut
import Derived.Test.YtppjjmjdiccloabRAt
namespace Go.Proofs.Ytppjjmjdiccloab
open Go.RowKit
set_option linter.unusedSimpArgs false
set_option linter.unusedVariables false

theorem lastS_bad {g : List Bal} {k : Nat} (hk : k < g.length) (h : amtB g[k].amount = false) : lastS g = ([], 2) := by
  unfold lastS
  rw [if_neg]
  intro h2
  have := List.all_eq_true.1 h2 _ (List.getElem_mem hk)
  rw [h] at this; cases this
theorem lastS_good {g : List Bal} (h : ∀ k (hk : k < g.length), amtB g[k].amount = true) : lastS g = (g.filter (fun x => x.amount != 0), 0) := by
  unfold lastS
  rw [if_pos]
  rw [List.all_eq_true]
  intro x hx
  obtain ⟨k, hk, rfl⟩ := List.getElem_of_mem hx
  exact h k hk
def nz (g : List Bal) : List Bal := g.filter (fun x => x.amount != 0)
theorem nz_snoc (g : List Bal) (x : Bal) : nz (g ++ [x]) = if x.amount = 0 then nz g else nz g ++ [x] := by
  unfold nz
  rw [List.filter_append]
  by_cases h : x.amount = 0
  · rw [if_pos h]; simp [h]
  · rw [if_neg h]; simp [h]
theorem nz_len (g : List Bal) : (nz g).length ≤ g.length := List.length_filter_le _ _
theorem moveS_1 {c : List Acc} {l : List Lnk} {bs : List Bal} {day : Int} (h : ascB bs = false) : moveS c l bs day = ([], 1) := by rw [moveS, if_pos h]
theorem moveS_f {c : List Acc} {l : List Lnk} {bs : List Bal} {day : Int} {k : Nat} (h : ascB bs = true) (hk : k < bs.length) (h1 : (runG c l day (bs.take k)).2 = 0) (hf : (atS c l bs[k].acc day).2 ≠ 0) : moveS c l bs day = ([], (atS c l bs[k].acc day).2) := by
  rw [moveS, if_neg (by simp [h]), runG_fail hk h1 hf, if_pos hf]
theorem moveS_l {c : List Acc} {l : List Lnk} {bs : List Bal} {day : Int} (h : ascB bs = true) (h1 : (runG c l day bs).2 = 0) : moveS c l bs day = lastS (runG c l day bs).1 := by
  rw [moveS, if_neg (by simp [h]), if_neg (by simp [h1])]
def OutBal (w : World) (r : List Bal × Int) (e : Ending) (w' : World) : Prop := ∃ ao cap b o, e = .returned (.tuple #[.slice ao r.1.length cap, .int .i64 r.2]) ∧ Bals w' ao r.1 cap b o ∧ Keeps w w'
theorem OutBal.nil {w w' : World} {r : List Bal × Int} {er : Int} (h : r = ([], er)) (hk : Keeps w w') : OutBal w r (.returned (.tuple #[.slice none 0 0, .int .i64 er])) w' := by
  subst h; exact ⟨none, 0, 0, 0, rfl, Sl.nil _ _, hk⟩
/-- What has been collected so far. -/
structure Coll (g : List Bal) (k : Nat) : Prop where
  asc : AscB g
  len : g.length ≤ k
  bd : ∀ x ∈ g, -((k : Int) * 1000000000000) ≤ x.amount ∧ x.amount ≤ (k : Int) * 1000000000000
theorem Coll.put {g : List Bal} {k : Nat} (h : Coll g k) (acc n : Int) (hn : -1000000000000 ≤ n ∧ n ≤ 1000000000000) : Coll (putS g acc n) (k + 1) := by
  refine ⟨putS_asc h.asc _ _, by have := putS_len g acc n; have := h.len; omega, fun x hx => ?_⟩
  have := putS_bd (B := (k : Int) * 1000000000000) h.bd (by omega) hn x hx
  rw [Int.natCast_add, Int.add_mul]
  omega
structure EntB (w : World) (g : Nat) (en : Ent) (aoC : Option Addr) (capC : Nat) (aoL : Option Addr) (capL : Nat) : Prop where
  c0 : w.cell? ⟨g, 0, none⟩ = some (.string en.name)
  c1 : w.cell? ⟨g, 1, none⟩ = some (.string en.cur)
  c2 : w.cell? ⟨g, 2, none⟩ = some (.slice aoC en.chart.length capC)
  c3 : w.cell? ⟨g, 3, none⟩ = some (.slice aoL en.links.length capL)
  c4 : w.cell? ⟨g, 4, none⟩ = some (.bool en.joint)
theorem EntB.keeps {w w' : World} {g : Nat} {en : Ent} {aoC : Option Addr} {capC : Nat} {aoL : Option Addr} {capL : Nat} (h : EntB w g en aoC capC aoL capL) (k : Keeps w w') : EntB w' g en aoC capC aoL capL :=
  ⟨k.cell h.c0, k.cell h.c1, k.cell h.c2, k.cell h.c3, k.cell h.c4⟩

set_option maxRecDepth 100000 in
set_option maxHeartbeats 1000000 in
theorem rmove_any (en : Ent) (v : Value) (l : List Bal) (ao : Option Addr) (cap b o : Nat) (day : Int) (w : World) (HE : EntV w v en) (H : Bals w ao l cap b o) (hlen : en.links.length ≤ 1000) (hll : l.length ≤ 100) :
    Calls Try.prog 19 #[v, .slice ao l.length cap, .int .i64 day] w (OutBal w (moveS en.chart en.links l day)) := by
  have HV := Lib.hid HE
  have hcap := Sl.cap H
  have hle := Sl.le H
  obtain ⟨cv, lv, rfl, ⟨aoC, capC, bC, oC, rfl, HC⟩, ⟨aoL, capL, bL, oL, rfl, HL⟩⟩ := HE
  have HH := Lib.hid H
  clear HC HL H
  cases hasc : ascB l with
  | false =>
    have HM := Lib.hid (moveS_1 (c := en.chart) (l := en.links) (day := day) hasc)
    have HQ : Hid (∀ W, Bals W ao l cap b o → Calls Try.prog 35 #[.slice ao l.length cap] W fun e w' => Gives W (.bool false) e w') := Lib.hid (fun W h => by have := asc_any l ao cap b o W h; rw [hasc] at this; exact this)
    clear hasc
    go_enter Try.func19, Try.ntmps19
    go_wp2_with (go_at_call 35; refine (HQ.out _ (HH.out.keeps ((Keeps.refl w).alloc _))).mono ?_; rintro e w1 ⟨rfl, q1, rfl⟩)
    go_ret2
    exact OutBal.nil HM.out (((Keeps.refl w).alloc _).drewN _)
  | true =>
    have HAM := Lib.hid (ascB_amt hasc)
    have HMF := Lib.hid (fun (k : Nat) (hk : k < l.length) h1 hf => moveS_f (c := en.chart) (l := en.links) (day := day) hasc hk h1 hf)
    have HML := Lib.hid (moveS_l (c := en.chart) (l := en.links) (day := day) hasc)
    have HQ : Hid (∀ W, Bals W ao l cap b o → Calls Try.prog 35 #[.slice ao l.length cap] W fun e w' => Gives W (.bool true) e w') := Lib.hid (fun W h => by have := asc_any l ao cap b o W h; rw [hasc] at this; exact this)
    clear hasc
    go_enter Try.func19, Try.ntmps19
    go_wp2_with (go_at_call 35; refine (HQ.out _ (HH.out.keeps ((Keeps.refl w).alloc _))).mono ?_; rintro e w1 ⟨rfl, q1, rfl⟩)
    obtain ⟨W1, hW1⟩ : ∃ W1, W1 = w.alloc (.cells #[.string en.name, .string en.cur, .slice aoC en.chart.length capC, .slice aoL en.links.length capL, .bool en.joint] 25) := ⟨_, rfl⟩
    have HW1 := Lib.hid hW1
    have HK1 : Hid (Keeps w W1) := Lib.hid (by rw [hW1]; exact (Keeps.refl w).alloc _)
    have HE1 : Hid (EntB W1 w.heap.size en aoC capC aoL capL) := Lib.hid (by rw [hW1]; exact ⟨by go_simp, by go_simp, by go_simp, by go_simp, by go_simp⟩)
    clear hW1
    go_loopw [8, 9] (fun vo vi wr => ∃ (k : Nat) (g : List Bal), k ≤ l.length ∧ g.length ≤ k ∧ vi = .int .i64 k ∧ Hid ((runG en.chart en.links day (l.take k)).2 = 0 ∧ (runG en.chart en.links day (l.take k)).1 = g) ∧ Hid (Coll g k) ∧ Hid (Keeps W1 wr ∧ wr.ownsRow W1.heap.size 65 2 vo g.length (g.flatMap Bal.cells))) (fun _ vi _ => l.length - (intOf vi).toNat)
    case atStart => exact ⟨0, [], Nat.zero_le _, Nat.le_refl _, rfl, Lib.hid ⟨rfl, rfl⟩, Lib.hid ⟨List.Pairwise.nil, Nat.le_refl _, by simp⟩, Lib.hid ⟨by rw [HW1.out]; exact (Keeps.refl _).drewN _, World.ownsRow_nil _ _ _ _⟩⟩
    case round =>
      obtain ⟨k, g, hk, hgk, rfl, HR, HG, HW⟩ := hrel
      obtain ⟨c0, c1, c2, c3, c4⟩ := HE1.out.keeps HW.out.1
      by_cases hlt : k < l.length
      · have HLk := HH.out.keeps (HK1.out.trans HW.out.1)
        have hix := Sl.at HLk Try.underlying41 Try.sizeOf65 k hlt
        have d0 := HLk.cell Bal.len k hlt 0 _ rfl
        have d1 := HLk.cell Bal.len k hlt 1 _ rfl
        simp only [Nat.add_zero] at d0
        clear HLk
        go_wp2_with fail
        go_region_held3 (fun w' => w'.cell? ⟨w.heap.size, 0, none⟩ = some (.string en.name) ∧ w'.cell? ⟨w.heap.size, 1, none⟩ = some (.string en.cur) ∧ w'.cell? ⟨w.heap.size, 2, none⟩ = some (.slice aoC en.chart.length capC) ∧ w'.cell? ⟨w.heap.size, 3, none⟩ = some (.slice aoL en.links.length capL) ∧ w'.cell? ⟨w.heap.size, 4, none⟩ = some (.bool en.joint) ∧ w'.cell? ⟨b, o + k * 2, none⟩ = some (.int .i64 l[k].acc))
          (first | go_keep | (exact ⟨hk2.cell c0, hk2.cell c1, hk2.cell c2, hk2.cell c3, hk2.cell c4, hk2.cell d0⟩))
          (first | (go_at_call 14; refine (rat_any en _ l[k].acc day _ (HV.out.keeps (HK1.out.trans HW.out.1.drew)) hlen).mono ?_; rintro e w2 ⟨rfl, hk2'⟩; have hk2 : Keeps wr w2 := (Keeps.refl wr).drew.trans hk2'))
        have HW2 : Hid (Keeps W1 w2 ∧ w2.ownsRow W1.heap.size 65 2 u8 g.length (g.flatMap Bal.cells)) := Lib.hid ⟨HW.out.1.trans hk2, own_keeps HW.out.2 hk2⟩
        have e0 := hk2.cell d0
        have e1 := hk2.cell d1
        clear c0 c1 c2 c3 c4 d0 d1 hk2 hk2' HW
        by_cases hf : (atS en.chart en.links l[k].acc day).2 = 0
        · have ef : ((atS en.chart en.links l[k].acc day).2 != 0) = false := by simp [hf]
          have hn := amtB_true.1 (HAM.out _ (List.getElem_mem hlt))
          have HST := Lib.hid (runG_step hlt HR.out.1 hf)
          have HG2 := Lib.hid (HG.out.put (atS en.chart en.links l[k].acc day).1 l[k].amount hn)
          have hz2 := HW2.out.1.size
          have hpl := putS_len g (atS en.chart en.links l[k].acc day).1 l[k].amount
          clear hf
          go_wp2_with (go_at_call 36; refine (put_any g _ _ _ W1.heap.size W1 _ HW2.out.2 HW2.out.1 hz2 (by omega) (fun x hx => by have := HG.out.bd x hx; omega) hn HG.out.asc).mono ?_; rintro e w3 ⟨v3, rfl, hrow3, hb3, hz3⟩; have HROW3 := Lib.hid hrow3; have HB3 := Lib.hid hb3; clear hrow3 hb3)
          go_roundw
          case rel => exact ⟨k + 1, putS g (atS en.chart en.links l[k].acc day).1 l[k].amount, by omega, by omega, by go_num, Lib.hid (by rw [HST.out, HR.out.2]; exact ⟨rfl, rfl⟩), HG2, Lib.hid ⟨HB3.out, HROW3.out⟩⟩
          case measure => simp [intOf]; omega
        · have ef : ((atS en.chart en.links l[k].acc day).2 != 0) = true := by simp [hf]
          have HM := Lib.hid (HMF.out k hlt HR.out.1 hf)
          clear hf
          go_wp2
          go_ret2
          exact OutBal.nil HM.out (HK1.out.trans HW2.out.1)
      · obtain rfl : k = l.length := by omega
        have hr := HR.out
        rw [List.take_length] at hr
        have HRES := Lib.hid (HML.out hr.1)
        rw [hr.2] at HRES
        obtain ⟨ao3, cap3, b3, hv3, hs3⟩ := Recs.own HW.out.2
        subst hv3
        have HS3 := Lib.hid hs3
        have hcap3 := Sl.cap hs3
        have hle3 := Sl.le hs3
        have HKW := Lib.hid (HK1.out.trans HW.out.1)
        have hg100 : g.length ≤ 100 := by omega
        clear hs3 HW HR HG hr c0 c1 c2 c3 c4 HML HMF HAM HQ HV HH
        go_wp2_with fail
        obtain ⟨wo, rfl⟩ : ∃ wo : World, wo = wr := ⟨_, rfl⟩
        go_loopw [12, 13] (fun vs vj ws => ∃ (j m : Nat), j ≤ g.length ∧ m ≤ j ∧ vj = .int .i64 j ∧ Hid (∀ i (hi : i < g.length), i < j → amtB g[i].amount = true) ∧ Hid ((nz (g.take j)).length = m ∧ Keeps wo ws ∧ ws.ownsRow wo.heap.size 65 2 vs m ((nz (g.take j)).flatMap Bal.cells))) (fun _ vj _ => g.length - (intOf vj).toNat)
        case atStart => exact ⟨0, 0, Nat.zero_le _, Nat.le_refl _, rfl, Lib.hid (fun i _ h => absurd h (Nat.not_lt_zero _)), Lib.hid ⟨rfl, Keeps.refl _, World.ownsRow_nil _ _ _ _⟩⟩
        case round =>
          obtain ⟨j, m, hj, hmj, rfl, HN, HX⟩ := hrel
          by_cases hjl : j < g.length
          · have HLj := HS3.out.keeps HX.out.2.1
            have hix := Sl.at HLj Try.underlying41 Try.sizeOf65 j hjl
            have d0 := HLj.cell Bal.len j hjl 0 _ rfl
            have d1 := HLj.cell Bal.len j hjl 1 _ rfl
            simp only [Nat.add_zero, Nat.zero_add] at d0 d1 hix
            clear HLj
            have HT : Hid (nz (g.take (j + 1)) = if g[j].amount = 0 then nz (g.take j) else nz (g.take j) ++ [g[j]]) := Lib.hid (by rw [List.take_succ_eq_append_getElem hjl, nz_snoc])
            cases hm : amtB g[j].amount with
            | false =>
              have HR2 := Lib.hid (HRES.out.trans (lastS_bad hjl hm))
              have HQ : Hid (∀ W : World, Calls Try.prog 37 #[.int .i64 g[j].amount] W fun e w' => e = .returned (.bool false) ∧ w' = W) := Lib.hid (fun W => by have := ramount_any g[j].amount W; rw [hm] at this; exact this)
              clear hm
              go_wp2_with (go_at_call 37; refine (HQ.out _).mono ?_; rintro e w4 ⟨rfl, rfl⟩)
              go_ret2
              exact OutBal.nil HR2.out (HKW.out.trans HX.out.2.1)
            | true =>
              have HN2 : Hid (∀ i (hi : i < g.length), i < j + 1 → amtB g[i].amount = true) := Lib.hid (fun i hi h => by
                rcases Nat.lt_succ_iff_lt_or_eq.1 h with h | rfl
                · exact HN.out i hi h
                · exact hm)
              have HQ : Hid (∀ W : World, Calls Try.prog 37 #[.int .i64 g[j].amount] W fun e w' => e = .returned (.bool true) ∧ w' = W) := Lib.hid (fun W => by have := ramount_any g[j].amount W; rw [hm] at this; exact this)
              clear hm
              by_cases hz : g[j].amount = 0
              · have ez : (g[j].amount != 0) = false := by simp [hz]
                rw [if_pos hz] at HT
                clear hz
                go_wp2_with (go_at_call 37; refine (HQ.out _).mono ?_; rintro e w4 ⟨rfl, hw4⟩; subst hw4)
                go_roundw
                case rel => exact ⟨j + 1, m, by omega, by omega, by go_num, HN2, Lib.hid (by rw [HT.out]; exact HX.out)⟩
                case measure => simp [intOf]; omega
              · have ez : (g[j].amount != 0) = true := by simp [hz]
                rw [if_neg hz] at HT
                clear hz
                go_wp2_with (first | (go_at_call 37; refine (HQ.out _).mono ?_; rintro e w4 ⟨rfl, hw4⟩; subst hw4) | (at_builtin; refine wpList_appx elemBal rfl _ _ rfl wo _ _ _ rfl wo.heap.size HX.out.2.2 HX.out.2.1 HX.out.2.1.size [.int .i64 g[j].acc, .int .i64 g[j].amount] _ 1 rfl rfl rfl (by intro u hu; simp at hu; rcases hu with rfl | rfl <;> rfl) (by omega) (by omega) ?_; intro v5 w5 hown5 hb5 hsz5; have HY : Hid ((nz (g.take (j + 1))).length = m + 1 ∧ Keeps wo w5 ∧ w5.ownsRow wo.heap.size 65 2 v5 (m + 1) ((nz (g.take (j + 1))).flatMap Bal.cells)) := (Lib.hid ⟨by rw [HT.out, List.length_append, HX.out.1]; rfl, hb5, by rw [HT.out, List.flatMap_append]; exact hown5⟩); clear hown5 hb5 hsz5))
                go_roundw
                case rel => exact ⟨j + 1, m + 1, by omega, by omega, by go_num, HN2, HY⟩
                case measure => simp [intOf]; omega
          · obtain rfl : j = g.length := by omega
            have HR2 := Lib.hid (HRES.out.trans (lastS_good fun k hk => HN.out k hk hk))
            have hx := HX.out
            rw [List.take_length] at hx
            have HROW : Hid (wr.ownsRow wo.heap.size 65 2 u12 (nz g).length ((nz g).flatMap Bal.cells)) := Lib.hid (by rw [hx.1]; exact hx.2.2)
            obtain ⟨ao5, cap5, b5, hv5, hs5⟩ := Recs.own HROW.out
            subst hv5
            have HKX := Lib.hid (HKW.out.trans hx.2.1)
            have HS5 := Lib.hid hs5
            clear hx hs5 HX HROW HN HRES
            go_wp2
            go_ret2
            rw [HR2.out]
            exact ⟨ao5, cap5, b5, 0, rfl, HS5.out, HKX.out⟩
end Go.Proofs.Ytppjjmjdiccloab
