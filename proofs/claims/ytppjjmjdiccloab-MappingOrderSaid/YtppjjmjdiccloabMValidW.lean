/- The program's Valid of a mapping: the walk. -/
import Derived.Test.YtppjjmjdiccloabMValidP
namespace Go.Proofs.Ytppjjmjdiccloab
open Go.RowKit
set_option linter.unusedSimpArgs false
set_option linter.unusedVariables false

set_option maxRecDepth 100000 in
set_option maxHeartbeats 4000000 in
theorem mvalid_any (en : Ent) (v : Value) (c : List Acc) (ao : Option Addr) (cap b o : Nat) (w : World) (HE : EntV w v en) (H2 : Accs w ao c cap b o) (hc : c.length ≤ 200) (hx : en.chart.length ≤ 200) (hl : en.links.length ≤ 400)
    (hok : ∀ x ∈ c, I64 x.code ∧ I64 x.parent) (hok2 : ∀ x ∈ en.chart, I64 x.code ∧ I64 x.parent) (hok3 : ∀ x ∈ en.links, I64 x.frm ∧ I64 x.to ∧ I64 x.since) :
    Calls Try.prog 11 #[v, .slice ao c.length cap] w fun e w' => e = .returned (.bool (mvalidB en c)) ∧ Keeps w w' := by
  obtain ⟨cv, lv, rfl, ⟨aoC, capC, bC, oC, rfl, HC⟩, ⟨aoL, capL, bL, oL, rfl, HL⟩⟩ := HE
  have hleL := Sl.le HL
  have hcapL := Sl.cap HL
  have HC := Lib.hid HC
  have HL := Lib.hid HL
  have HC2 := Lib.hid H2
  have HO3 := Lib.hid hok3
  have hmm := @run_makeMap Try.prog
  have HV1 : Hid (∀ W, Accs W ao c cap b o → Calls Try.prog 22 #[.slice ao c.length cap, .bool true] W fun e w' => e = .returned (.bool (validRB c true)) ∧ Keeps W w') := Lib.hid (fun W h => by have := valid_any c true ao cap b o W h hc hok; rw [valid_eq] at this; exact this)
  have HV2 : Hid (∀ W, Accs W aoC en.chart capC bC oC → Calls Try.prog 22 #[.slice aoC en.chart.length capC, .bool false] W fun e w' => e = .returned (.bool (validRB en.chart false)) ∧ Keeps W w') := Lib.hid (fun W h => by have := valid_any en.chart false aoC capC bC oC W h hx hok2; rw [valid_eq] at this; exact this)
  clear H2 hok hok2 hok3
  cases h1 : validRB c true with
  | false =>
    have HF := Lib.hid (mvalidB_1 (en := en) h1)
    rw [h1] at HV1
    clear h1
    go_enter Try.func11, Try.ntmps11
    go_wp2_with (go_at_call 22; (with_reducible refine (HV1.out _ (HC2.out.keeps ((Keeps.refl w).alloc _))).mono ?_); rintro e1 w1 ⟨rfl, hk1⟩; have K1 := Lib.hid hk1; have b_0 := hk1.cell (p := ⟨w.heap.size, 0, none⟩) (v := .string en.name) (by go_simp); have b_1 := hk1.cell (p := ⟨w.heap.size, 1, none⟩) (v := .string en.cur) (by go_simp); have b_2 := hk1.cell (p := ⟨w.heap.size, 2, none⟩) (v := .slice aoC en.chart.length capC) (by go_simp); have b_3 := hk1.cell (p := ⟨w.heap.size, 3, none⟩) (v := .slice aoL en.links.length capL) (by go_simp); have b_4 := hk1.cell (p := ⟨w.heap.size, 4, none⟩) (v := .bool en.joint) (by go_simp); have hz1 := World.block_lt_of_cell? _ _ b_0; clear hk1)
    go_ret
    rw [HF.out]
    exact ⟨rfl, ((Keeps.refl w).alloc _).trans K1.out⟩
  | true =>
    rw [h1] at HV1
    have H1 := Lib.hid h1
    clear h1
    cases h2 : validRB en.chart false with
    | false =>
      have HF := Lib.hid (mvalidB_2 (c := c) h2)
      rw [h2] at HV2
      clear h2
      go_enter Try.func11, Try.ntmps11
      go_wp2_with (first | (go_at_call 22; (with_reducible refine (HV2.out _ (HC.out.keeps (((Keeps.refl w).alloc _).trans K1.out))).mono ?_); rintro e2 w2 ⟨rfl, hk2⟩; have c_3 := hk2.cell b_3; have hz2 := World.block_lt_of_cell? _ _ c_3; have K2 := Lib.hid (K1.out.trans hk2); clear hk2 b_0 b_1 b_2 b_3 b_4) | (go_at_call 22; (with_reducible refine (HV1.out _ (HC2.out.keeps ((Keeps.refl w).alloc _))).mono ?_); rintro e1 w1 ⟨rfl, hk1⟩; have K1 := Lib.hid hk1; have b_0 := hk1.cell (p := ⟨w.heap.size, 0, none⟩) (v := .string en.name) (by go_simp); have b_1 := hk1.cell (p := ⟨w.heap.size, 1, none⟩) (v := .string en.cur) (by go_simp); have b_2 := hk1.cell (p := ⟨w.heap.size, 2, none⟩) (v := .slice aoC en.chart.length capC) (by go_simp); have b_3 := hk1.cell (p := ⟨w.heap.size, 3, none⟩) (v := .slice aoL en.links.length capL) (by go_simp); have b_4 := hk1.cell (p := ⟨w.heap.size, 4, none⟩) (v := .bool en.joint) (by go_simp); have hz1 := World.block_lt_of_cell? _ _ b_0; clear hk1))
      go_ret
      rw [HF.out]
      exact ⟨rfl, ((Keeps.refl w).alloc _).trans K2.out⟩
    | true =>
      rw [h2] at HV2
      have H2 := Lib.hid h2
      clear h2
      go_enter Try.func11, Try.ntmps11
      go_wp2_with (first | (go_at_call 22; (with_reducible refine (HV2.out _ (HC.out.keeps (((Keeps.refl w).alloc _).trans K1.out))).mono ?_); rintro e2 w2 ⟨rfl, hk2⟩; have c_3 := hk2.cell b_3; have hz2 := World.block_lt_of_cell? _ _ c_3; have K2 := Lib.hid (K1.out.trans hk2); clear hk2 b_0 b_1 b_2 b_3 b_4) | (go_at_call 22; (with_reducible refine (HV1.out _ (HC2.out.keeps ((Keeps.refl w).alloc _))).mono ?_); rintro e1 w1 ⟨rfl, hk1⟩; have K1 := Lib.hid hk1; have b_0 := hk1.cell (p := ⟨w.heap.size, 0, none⟩) (v := .string en.name) (by go_simp); have b_1 := hk1.cell (p := ⟨w.heap.size, 1, none⟩) (v := .string en.cur) (by go_simp); have b_2 := hk1.cell (p := ⟨w.heap.size, 2, none⟩) (v := .slice aoC en.chart.length capC) (by go_simp); have b_3 := hk1.cell (p := ⟨w.heap.size, 3, none⟩) (v := .slice aoL en.links.length capL) (by go_simp); have b_4 := hk1.cell (p := ⟨w.heap.size, 4, none⟩) (v := .bool en.joint) (by go_simp); have hz1 := World.block_lt_of_cell? _ _ b_0; clear hk1))
      go_loopw [28] (fun vi wr => ∃ k : Nat, k ≤ en.links.length ∧ vi = .int .i64 k ∧ Hid (∀ j < k, okL en.chart c en.links j = true) ∧ Hid (Keeps (w.alloc (.cells #[.string en.name, .string en.cur, .slice aoC en.chart.length capC, .slice aoL en.links.length capL, .bool en.joint] 25)) wr ∧ VMap linkK wr w2.heap.size k (seenL (en.links.take k)))) (fun vi _ => en.links.length - (intOf vi).toNat)
      case atStart => exact ⟨0, Nat.zero_le _, rfl, Lib.hid (fun j hj => absurd hj (Nat.not_lt_zero _)), Lib.hid ⟨K2.out.alloc _, by rw [List.take_zero, seenL_nil]; exact VMap.made linkK w2⟩⟩
      case round =>
        obtain ⟨k, hk, rfl, HN, HW⟩ := hrel
        by_cases hlt : k < en.links.length
        · have KW := HW.out.1
          have HLr := HL.out.keeps (((Keeps.refl w).alloc _).trans KW)
          have hix := Sl.at HLr Try.underlying23 Try.sizeOf39 k hlt
          have l0 := HLr.cell Lnk.len k hlt 0 _ rfl
          have l1 := HLr.cell Lnk.len k hlt 1 _ rfl
          have l2 := HLr.cell Lnk.len k hlt 2 _ rfl
          simp only [Nat.add_zero] at l0
          have d_0 := KW.cell (p := ⟨w.heap.size, 0, none⟩) (v := .string en.name) (by go_simp); have d_1 := KW.cell (p := ⟨w.heap.size, 1, none⟩) (v := .string en.cur) (by go_simp); have d_2 := KW.cell (p := ⟨w.heap.size, 2, none⟩) (v := .slice aoC en.chart.length capC) (by go_simp); have d_3 := KW.cell (p := ⟨w.heap.size, 3, none⟩) (v := .slice aoL en.links.length capL) (by go_simp); have d_4 := KW.cell (p := ⟨w.heap.size, 4, none⟩) (v := .bool en.joint) (by go_simp)
          have hzr := World.block_lt_of_cell? _ _ d_0
          have hol := HO3.out _ (List.getElem_mem hlt)
          have hokl := okL_at (x := en.chart) (c := c) hlt
          have hkok : linkK.ok (keyL en.links[k]) := ⟨hol.1, (show I64 0 from ⟨by decide, by decide⟩), hol.2.2⟩
          have HM : Hid (VMap linkK ((wr.alloc (.cells #[.int .i64 en.links[k].frm, .int .i64 en.links[k].to, .int .i64 en.links[k].since] 39)).alloc (.cells #[.int .i64 en.links[k].frm, .int .i64 0, .int .i64 en.links[k].since] 39)) w2.heap.size k (seenL (en.links.take k))) := Lib.hid ((HW.out.2.alloc _).alloc _)
          have hlk : (Instr.lookup 52 (.map (some w2.heap.size)) (.agg #[.int .i64 en.links[k].frm, .int .i64 0, .int .i64 en.links[k].since]) false).run Try.prog ((wr.alloc (.cells #[.int .i64 en.links[k].frm, .int .i64 en.links[k].to, .int .i64 en.links[k].since] 39)).alloc (.cells #[.int .i64 en.links[k].frm, .int .i64 0, .int .i64 en.links[k].since] 39)) = .ok (.bool ((en.links.take k).any (fun a => sameK a en.links[k]))) ((wr.alloc (.cells #[.int .i64 en.links[k].frm, .int .i64 en.links[k].to, .int .i64 en.links[k].since] 39)).alloc (.cells #[.int .i64 en.links[k].frm, .int .i64 0, .int .i64 en.links[k].since] 39)) := by
            have := HM.out.look Try.underlying52 (fun w => Try.zeroValue4 w) hkok _ rfl
            rw [seenL_get] at this
            exact this
          clear KW HLr hol
          cases hs : (en.links.take k).any (fun a => sameK a en.links[k]) with
          | true =>
            rw [hs] at hlk hokl
            have HB := Lib.hid (mvalidB_bad hlt hokl)
            clear hs hokl
            go_wp2_with fail
            go_ret
            rw [HB.out]
            exact ⟨rfl, ((Keeps.refl w).alloc _).trans ((HW.out.1.alloc _).alloc _)⟩
          | false =>
            rw [hs] at hlk hokl
            have HLK : Hid (∀ W, Accs W aoC en.chart capC bC oC → Accs W ao c cap b o → Calls Try.prog 23 #[.agg #[.string en.name, .string en.cur, .slice aoC en.chart.length capC, .slice aoL en.links.length capL, .bool en.joint], .slice ao c.length cap, .agg #[.int .i64 en.links[k].frm, .int .i64 en.links[k].to, .int .i64 en.links[k].since]] W fun e w' => e = .returned (.bool (linkB en.chart c en.links[k])) ∧ Keeps W w') := Lib.hid (fun W h h' => link_any en.name en.cur en.joint en.chart c en.links[k] _ aoC capC bC oC ao cap b o W h h')
            clear hs
            cases hlb : linkB en.chart c en.links[k] with
            | false =>
              rw [hlb] at hokl HLK
              have HB := Lib.hid (mvalidB_bad hlt hokl)
              clear hokl hlb
              go_wp2_with (go_at_call 23; (with_reducible refine (HLK.out _ (HC.out.keeps (((Keeps.refl w).alloc _).trans ((HW.out.1.alloc _).alloc _))) (HC2.out.keeps (((Keeps.refl w).alloc _).trans ((HW.out.1.alloc _).alloc _)))).mono ?_); rintro e3 w3 ⟨rfl, hk3⟩; have K3 := Lib.hid hk3; clear hk3)
              go_ret
              rw [HB.out]
              exact ⟨rfl, ((Keeps.refl w).alloc _).trans (((HW.out.1.alloc _).alloc _).trans K3.out)⟩
            | true =>
              rw [hlb] at hokl HLK
              have HOK := Lib.hid hokl
              clear hokl hlb
              have hml := HM.out.lt
              go_wp2_with (first | (go_at_call 23; (with_reducible refine (HLK.out _ (HC.out.keeps (((Keeps.refl w).alloc _).trans ((HW.out.1.alloc _).alloc _))) (HC2.out.keeps (((Keeps.refl w).alloc _).trans ((HW.out.1.alloc _).alloc _)))).mono ?_); rintro e3 w3 ⟨rfl, hk3⟩; have x0 := hk3.cell (p := ⟨wr.heap.size + 1, 0, none⟩) (v := .int .i64 en.links[k].frm) (by go_simp); have x1 := hk3.cell (p := ⟨wr.heap.size + 1, 1, none⟩) (v := .int .i64 0) (by go_simp); have x2 := hk3.cell (p := ⟨wr.heap.size + 1, 2, none⟩) (v := .int .i64 en.links[k].since) (by go_simp); have K3 := Lib.hid hk3; have HM3 := Lib.hid (HM.out.keeps hk3); clear hk3) | (refine wpList_vstore (K := linkK) rfl _ _ _ 52 rfl Try.underlying52 w2.heap.size k rfl HM3.out (by unfold maxLen; omega) (keyL en.links[k]) hkok rfl (.bool true) rfl (seenL (en.links.take (k + 1))) (by rw [take_snoc _ _ hlt]; exact (seenL_snoc _ _).1) (fun d _ hd => by rw [take_snoc _ _ hlt]; exact (seenL_snoc _ _).2 d hd) ?_; intro w4 hm4 hg4; have HX : Hid (Keeps (w.alloc (.cells #[.string en.name, .string en.cur, .slice aoC en.chart.length capC, .slice aoL en.links.length capL, .bool en.joint] 25)) w4 ∧ VMap linkK w4 w2.heap.size (k + 1) (seenL (en.links.take (k + 1)))) := Lib.hid ⟨Below.grown (((HW.out.1.alloc _).alloc _).trans K3.out) hg4 (((HW.out.1.alloc _).alloc _).trans K3.out).size (fun j hj => by cases hj; exact K2.out.size), hm4⟩; clear hm4 hg4))
              go_roundw
              case rel => exact ⟨k + 1, by omega, by go_num, Lib.hid (fun j hj => by
                rcases Nat.lt_succ_iff_lt_or_eq.1 hj with h | rfl
                · exact HN.out j h
                · exact HOK.out), HX⟩
              case measure => simp [intOf]; omega
        · obtain rfl : k = en.links.length := by omega
          have HB := Lib.hid (mvalidB_good H1.out H2.out hl HN.out)
          go_wp2_with fail
          go_ret
          rw [HB.out]
          exact ⟨rfl, ((Keeps.refl w).alloc _).trans HW.out.1⟩
end Go.Proofs.Ytppjjmjdiccloab
