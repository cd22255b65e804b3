/- Walks and plain facts that the claim rests on (GrpE, GrpV, IvlP, ScopeP). No condition. -/
import Derived.Test.YtoaidbhiciaeaaaGreatOr14
import Derived.Test.YtoaidbhiciaeaaaGreatOr13
import Derived.Test.YtoaidbhiciaeaaaGreatOr04
section
namespace Go.Proofs.YtoaidbhiciaeaaaGreat
open Go.RowKit
set_option linter.unusedSimpArgs false
set_option linter.unusedVariables false
theorem entB_1 {g : Grp} {e : Ent} (h : nameB e.name = false) : entB g e = false := by unfold entB; rw [h]; rfl
theorem entB_2 {g : Grp} {e : Ent} (h : curB e.cur = false) : entB g e = false := by unfold entB; rw [h]; simp
theorem entB_3 {g : Grp} {e : Ent} (h : mvalidB e g.chart = false) : entB g e = false := by unfold entB; rw [h]; simp
theorem entB_4 {g : Grp} {e : Ent} (h1 : nameB e.name = true) (h2 : curB e.cur = true) (h3 : mvalidB e g.chart = true) : entB g e = !(e.links.any (fun l => closedP (rolesL g.rl) l.to)) := by unfold entB; rw [h1, h2, h3]; simp
set_option maxRecDepth 100000 in
set_option maxHeartbeats 8000000 in
theorem ent_any (g : Grp) (ev : Value) (e : Ent) (aoC : Option Addr) (capC bC oC : Nat) (aoX : Option Addr) (capX bX oX : Nat) (aoL : Option Addr) (capL bL oL : Nat) (w : World) (H : Accs w aoC g.chart capC bC oC) (HX : Accs w aoX e.chart capX bX oX) (HLn : Lnks w aoL e.links capL bL oL)
    (hlen : g.chart.length ≤ 200) (hok : ∀ x ∈ g.chart, x.OkA) (hro : g.rl.Ok) (heo : e.Ok) :
    Calls Tryz.prog 65 #[.agg #[.string g.cur, .int .i64 g.y, .int .i64 g.m, .int .i64 g.n, .slice aoC g.chart.length capC, .int .i64 g.rl.r0, .int .i64 g.rl.r1, .int .i64 g.rl.r2, .int .i64 g.rl.r3, .int .i64 g.rl.r4, .int .i64 g.rl.r5, .int .i64 g.rl.r6, .int .i64 g.rl.r7, .int .i64 g.rl.r8, .int .i64 g.rl.r9, .int .i64 g.rl.r10, .int .i64 g.rl.r11, .int .i64 g.rl.r12, .int .i64 g.rl.r13, .int .i64 g.rl.r14, ev], .agg #[.string e.name, .string e.cur, .slice aoX e.chart.length capX, .slice aoL e.links.length capL, .bool e.joint]] w fun r w' => r = .returned (.bool (entB g e)) ∧ Keeps w w' := by
  have hmm := @run_makeMap Tryz.prog
  obtain ⟨ho1, ho2, ho3, ho4, ho5, ho6⟩ := heo
  have HGB : Hid (RowB (w.alloc (.cells (g.cells (.slice aoC g.chart.length capC) ev).toArray 29)) w.heap.size 29 (g.cells (.slice aoC g.chart.length capC) ev)) := Lib.hid (RowB.new w _ _)
  have HN : Hid (∀ W, Calls Tryz.prog 104 #[.string e.name] W fun r w' => r = .returned (.bool (nameB e.name)) ∧ W = w') := Lib.hid (fun W => nameP_any _ ho1 W)
  have HU : Hid (∀ W, Calls Tryz.prog 62 #[.string e.cur] W fun r w' => r = .returned (.bool (curB e.cur)) ∧ W = w') := Lib.hid (fun W => curP_any _ ho2 W)
  have HV : Hid (∀ W, Keeps w W → Calls Tryz.prog 105 #[.agg #[.string e.name, .string e.cur, .slice aoX e.chart.length capX, .slice aoL e.links.length capL, .bool e.joint], .slice aoC g.chart.length capC] W fun r w' => r = .returned (.bool (mvalidB e g.chart)) ∧ Keeps W w') := Lib.hid (fun W hk => mvalid_any e _ g.chart aoC capC bC oC W ⟨_, _, rfl, ⟨aoX, capX, bX, oX, rfl, HX.keeps hk⟩, ⟨aoL, capL, bL, oL, rfl, HLn.keeps hk⟩⟩ (H.keeps hk) hlen ho3 ho4 hok ho5 ho6)
  have HLK := Lib.hid HLn
  have HO6 := Lib.hid ho6
  clear H HX HLn hok ho5 ho6
  cases h1 : nameB e.name with
  | false =>
    have HBD := Lib.hid (entB_1 (g := g) h1)
    rw [h1] at HN
    clear h1
    go_enter Tryz.func65, Tryz.ntmps65
    go_wp2_with (go_at_call 104; (refine (HN.out _).mono ?_); rintro e1 w1 ⟨rfl, rfl⟩)
    go_ret
    rw [HBD.out]
    exact ⟨rfl, ((Keeps.refl w).alloc _).alloc _⟩
  | true =>
    rw [h1] at HN
    cases h2 : curB e.cur with
    | false =>
      have HBD := Lib.hid (entB_2 (g := g) h2)
      rw [h2] at HU
      clear h1 h2
      go_enter Tryz.func65, Tryz.ntmps65
      go_wp2_with (first | (go_at_call 104; (refine (HN.out _).mono ?_); rintro e1 w1 ⟨rfl, rfl⟩) | (go_at_call 62; (refine (HU.out _).mono ?_); rintro e2 w2 ⟨rfl, rfl⟩))
      go_ret
      rw [HBD.out]
      exact ⟨rfl, ((Keeps.refl w).alloc _).alloc _⟩
    | true =>
      rw [h2] at HU
      cases h3 : mvalidB e g.chart with
      | false =>
        have HBD := Lib.hid (entB_3 (g := g) h3)
        rw [h3] at HV
        clear h1 h2 h3
        go_enter Tryz.func65, Tryz.ntmps65
        go_wp2_with (first | (go_at_call 104; (refine (HN.out _).mono ?_); rintro e1 w1 ⟨rfl, rfl⟩) | (go_at_call 62; (refine (HU.out _).mono ?_); rintro e2 w2 ⟨rfl, rfl⟩) | (go_at_call 105; (refine (HV.out _ (((Keeps.refl w).alloc _).alloc _)).mono ?_); rintro e2 w2 ⟨rfl, hk2⟩; have K2 := Lib.hid ((((Keeps.refl w).alloc (.cells (g.cells (.slice aoC g.chart.length capC) ev).toArray 29)).alloc (.cells #[.string e.name, .string e.cur, .slice aoX e.chart.length capX, .slice aoL e.links.length capL, .bool e.joint] 106)).trans hk2); have G2 := Lib.hid ((HGB.out.alloc (.cells #[.string e.name, .string e.cur, .slice aoX e.chart.length capX, .slice aoL e.links.length capL, .bool e.joint] 106)).keeps hk2); have x3 := hk2.cell (p := ⟨w.heap.size + 1, 3, none⟩) (v := .slice aoL e.links.length capL) (by go_simp); have hz2 := World.block_lt_of_cell? _ _ x3; have X3 := Lib.hid x3; clear hk2))
        go_ret
        rw [HBD.out]
        exact ⟨rfl, K2.out⟩
      | true =>
        rw [h3] at HV
        have HGD := Lib.hid (entB_4 (g := g) h1 h2 h3)
        clear h1 h2 h3
        obtain ⟨l, hl⟩ : ∃ l, rolesL g.rl = l := ⟨_, rfl⟩
        have hll : l.length = 15 := by rw [← hl]; rfl
        have HRO : Hid (∀ W, Calls Tryz.prog 102 #[.agg #[.int .i64 g.rl.r0, .int .i64 g.rl.r1, .int .i64 g.rl.r2, .int .i64 g.rl.r3, .int .i64 g.rl.r4, .int .i64 g.rl.r5, .int .i64 g.rl.r6, .int .i64 g.rl.r7, .int .i64 g.rl.r8, .int .i64 g.rl.r9, .int .i64 g.rl.r10, .int .i64 g.rl.r11, .int .i64 g.rl.r12, .int .i64 g.rl.r13, .int .i64 g.rl.r14]] W fun e w' => ∃ B, W.heap.size ≤ B ∧ e = .returned (.slice (some ⟨B, 0, none⟩) 15 15) ∧ Recs w' 5 Rol.cells (some ⟨B, 0, none⟩) l 15 B 0 ∧ Keeps W w') := Lib.hid (fun W => (rolesP_any g.rl W).mono (by rintro e w' ⟨rfl, hs, hk⟩; exact ⟨_, Nat.le_succ _, rfl, by rw [← hl]; exact hs, hk⟩))
        have HIA : Hid (∀ q ∈ l, I64 q.code) := Lib.hid (by rw [← hl]; exact hro)
        rw [hl] at HGD
        have HLL := Lib.hid hll
        clear hl hll hro
        go_enter Tryz.func65, Tryz.ntmps65
        go_wp2_with (first | (go_at_call 104; (refine (HN.out _).mono ?_); rintro e1 w1 ⟨rfl, rfl⟩) | (go_at_call 62; (refine (HU.out _).mono ?_); rintro e2 w2 ⟨rfl, rfl⟩) | (go_at_call 105; (refine (HV.out _ (((Keeps.refl w).alloc _).alloc _)).mono ?_); rintro e2 w2 ⟨rfl, hk2⟩; have K2 := Lib.hid ((((Keeps.refl w).alloc (.cells (g.cells (.slice aoC g.chart.length capC) ev).toArray 29)).alloc (.cells #[.string e.name, .string e.cur, .slice aoX e.chart.length capX, .slice aoL e.links.length capL, .bool e.joint] 106)).trans hk2); have G2 := Lib.hid ((HGB.out.alloc (.cells #[.string e.name, .string e.cur, .slice aoX e.chart.length capX, .slice aoL e.links.length capL, .bool e.joint] 106)).keeps hk2); have x3 := hk2.cell (p := ⟨w.heap.size + 1, 3, none⟩) (v := .slice aoL e.links.length capL) (by go_simp); have hz2 := World.block_lt_of_cell? _ _ x3; have X3 := Lib.hid x3; clear hk2) | (go_at_call 102; (refine (HRO.out _).mono ?_); rintro e3 w3 ⟨B, hB, rfl, hs3, hk3⟩; have HS3 := Lib.hid hs3; have K3 := Lib.hid (((K2.out.alloc (.map #[] 0)).alloc (.cells #[.map (some w2.heap.size)] 140)).trans hk3); have HB3 : Hid (w2.heap.size + 1 < B ∧ w2.heap.size + 1 < w3.heap.size) := Lib.hid (by have := hk3.size; simp only [World.size_alloc] at hB this; omega); have m3 := hk3.cell (p := ⟨w2.heap.size + 1, 0, none⟩) (v := .map (some w2.heap.size)) (by have := RowB.cell (RowB.new (w2.alloc (.map #[] 0)) 140 [.map (some w2.heap.size)]) 0 _ rfl; rw [World.size_alloc] at this; exact this); have HM3 := Lib.hid (((VMap.made intK w2).alloc (.cells #[.map (some w2.heap.size)] 140)).keeps hk3); have x3' := hk3.cell (Keeps.cell (((Keeps.refl w2).alloc (.map #[] 0)).alloc (.cells #[.map (some w2.heap.size)] 140)) X3.out); clear hs3 hk3 hB) | (refine wpList_load_mid rfl 26 _ rfl w.heap.size 5 rfl g.rl.vals _ (range_sub (RowB.range ((G2.out.alloc _).alloc _)) 5 _ (grp_roles g _ _)) Tryz.underlying26 rfl rolesSize ?_))
        go_loopw [30] (fun vi wr => ∃ k : Nat, k ≤ 15 ∧ vi = .int .i64 k ∧ Hid (Keeps w wr ∧ w3.grownBy wr (some w2.heap.size) ∧ VMap intK wr w2.heap.size k (clsF (l.take k)))) (fun vi _ => 15 - (intOf vi).toNat)
        case atStart => exact ⟨0, Nat.zero_le _, rfl, Lib.hid ⟨K3.out, World.grownBy.refl _ _, by rw [List.take_zero, clsF_nil]; exact HM3.out⟩⟩
        case round =>
          obtain ⟨k, hk, rfl, HW⟩ := hrel
          have m4 := HW.out.2.1.cell m3 (by intro e; simp at e)
          have hzr := World.block_lt_of_cell? _ _ m4
          simp only at hzr
          by_cases hlt15 : k < 15
          · have hlt : k < l.length := by rw [HLL.out]; exact hlt15
            have hsr := Sl.grownR HS3.out HW.out.2.1 (by intro e; have := HB3.out.1; simp at e; omega)
            have hix := Sl.at hsr Tryz.underlying166 Tryz.sizeOf169 k hlt
            rw [HLL.out] at hix
            obtain ⟨r, hr⟩ : ∃ r, l[k] = r := ⟨_, rfl⟩
            have hsr : Recs wr 5 Rol.cells (some ⟨B, 0, none⟩) l 15 B 0 := hsr
            have c0 := hsr.cell Rol.len k hlt 0 (.string r.nm) (by rw [hr]; rfl)
            have c1 := hsr.cell Rol.len k hlt 1 (.int .i64 r.code) (by rw [hr]; rfl)
            have c2 := hsr.cell Rol.len k hlt 2 (.int .i64 r.kind) (by rw [hr]; rfl)
            have c3 := hsr.cell Rol.len k hlt 3 (.int .i64 r.basis) (by rw [hr]; rfl)
            have c4 := hsr.cell Rol.len k hlt 4 (.bool r.mapped) (by rw [hr]; rfl)
            simp only [Nat.add_zero, Nat.zero_add] at c0 c1 c2 c3 c4 hix
            have HI : Hid (I64 r.code) := Lib.hid (by rw [← hr]; exact HIA.out _ (List.getElem_mem ..))
            have HTK : Hid (l.take (k + 1) = l.take k ++ [r]) := Lib.hid (by rw [take_snoc _ _ hlt, hr])
            clear hr hsr
            go_wp2_with (refine wpList_vstore (K := intK) rfl _ _ _ 140 rfl Tryz.underlying140 w2.heap.size k rfl (HW.out.2.2.alloc _) (by unfold maxLen; omega) r.code HI.out rfl (.bool (!r.mapped)) rfl (clsF (l.take (k + 1))) (by rw [HTK.out]; exact (clsF_snoc _ _).1) (fun d _ hd => by rw [HTK.out]; exact (clsF_snoc _ _).2 d hd) ?_; intro w5 hm5 hg5; have HX : Hid (Keeps w w5 ∧ w3.grownBy w5 (some w2.heap.size) ∧ VMap intK w5 w2.heap.size (k + 1) (clsF (l.take (k + 1)))) := Lib.hid ⟨Below.grown (HW.out.1.alloc _) hg5 (HW.out.1.alloc _).size (fun j hj => by cases hj; exact K2.out.size), (HW.out.2.1.trans (World.grownBy_alloc _ _ _)).trans hg5, hm5⟩; clear hm5 hg5)
            go_roundw
            case rel => exact ⟨k + 1, by omega, by go_num, HX⟩
            case measure => simp [intOf]; omega
          · have x4 := HW.out.2.1.cell x3' (by intro e; simp at e; omega)
            have hzx := World.block_lt_of_cell? _ _ x4
            have HCL : Hid (Calls Tryz.prog 106 #[.slice aoL e.links.length capL, .func (.func 107) #[] #[.pointer (some ⟨w2.heap.size + 1, 0, none⟩)]] wr fun r w' => r = .returned (.bool (e.links.any (fun x => closedP l x.to))) ∧ Keeps wr w') := Lib.hid (hasL_any l (w2.heap.size + 1) w2.heap.size k aoL e.links capL bL oL wr (HLK.out.keeps HW.out.1) m4 (by have := HW.out.2.2; rwa [List.take_of_length_le (by rw [HLL.out]; omega)] at this) HO6.out)
            obtain ⟨q, hq⟩ : ∃ q, e.links.any (fun x => closedP l x.to) = q := ⟨_, rfl⟩
            rw [hq] at HCL HGD
            clear hq
            go_wp2_with (go_at_call 106; (refine HCL.out.mono ?_); rintro e6 w6 ⟨rfl, hk6⟩)
            go_ret
            rw [HGD.out]
            exact ⟨rfl, HW.out.1.trans hk6⟩
end Go.Proofs.YtoaidbhiciaeaaaGreat

end
section
namespace Go.Proofs.YtoaidbhiciaeaaaGreat
open Go.RowKit
set_option linter.unusedSimpArgs false
set_option linter.unusedVariables false
theorem wpList_rowG {w : World} {ops : Array Oper} {rest : List Oper} {op : Oper} {a : Act} {Q : Exit → Act → World → Prop} (ty : TypeId) (x : Operand) (ho : op.op = .load ty x) (hw : Region.wanted op (yielded ops a.tmps) = true)
    (b : Nat) (bv : List Value) (d : TypeDesc) (hx : a.eval x = .pointer (some ⟨b, 0, none⟩)) (hc : w.rangeAt b 0 bv) (hu : Tryz.prog.underlying ty = some d) (hd : d.isRow = true) (hi : (Tryz.prog.info? ty).map (·.size) = some bv.length)
    (h : wpList Tryz.prog ops Q rest (a.put op.dst (.agg bv.toArray)) w) : wpList Tryz.prog ops Q (op :: rest) a w :=
  Go.BigFrame.wpList_want hw fun K hK => wp_load_mid ty x ho b 0 hx bv d hc hu hd hi (hK _ _ h)
theorem grpB_1 {g : Grp} (h : curB g.cur = false) : grpB g = false := by unfold grpB; rw [h]; rfl
theorem grpB_2 {g : Grp} (h : calB g.y g.m g.n = false) : grpB g = false := by unfold grpB; rw [h]; simp
theorem grpB_3 {g : Grp} (h : accB g = false) : grpB g = false := by unfold grpB; rw [h]; simp
theorem grpB_4 {g : Grp} (h : g.ents.length < 1) : grpB g = false := by unfold grpB; rw [decide_eq_false (by omega : ¬ 1 ≤ g.ents.length)]; simp
theorem grpB_5 {g : Grp} (h : 12 < g.ents.length) : grpB g = false := by unfold grpB; rw [decide_eq_false (by omega : ¬ g.ents.length ≤ 12)]; simp
theorem grpB_6 {g : Grp} (h : jointAt g 0 = true) : grpB g = false := by unfold grpB; rw [h]; simp
theorem grpB_7 {g : Grp} {k : Nat} (hk : k < g.ents.length) (h : okEnt g k = false) : grpB g = false := by unfold grpB; rw [allr_false hk h]; simp
theorem grpB_8 {g : Grp} (h1 : curB g.cur = true) (h2 : calB g.y g.m g.n = true) (h3 : accB g = true) (h4 : 1 ≤ g.ents.length) (h5 : g.ents.length ≤ 12) (h6 : jointAt g 0 = false) (h : ∀ k, k < g.ents.length → okEnt g k = true) : grpB g = true := by
  unfold grpB
  rw [allr_true h, h1, h2, h3, h6, decide_eq_true h4, decide_eq_true h5]; rfl
set_option maxRecDepth 100000 in
set_option maxHeartbeats 8000000 in
theorem grp_any (g : Grp) (aoC : Option Addr) (capC bC oC : Nat) (aoE : Option Addr) (capE bE oE : Nat) (w : World) (H : Accs w aoC g.chart capC bC oC) (HE : EntsV w aoE g.ents capE bE oE) (hgo : g.Ok) :
    Calls Tryz.prog 38 #[.agg #[.string g.cur, .int .i64 g.y, .int .i64 g.m, .int .i64 g.n, .slice aoC g.chart.length capC, .int .i64 g.rl.r0, .int .i64 g.rl.r1, .int .i64 g.rl.r2, .int .i64 g.rl.r3, .int .i64 g.rl.r4, .int .i64 g.rl.r5, .int .i64 g.rl.r6, .int .i64 g.rl.r7, .int .i64 g.rl.r8, .int .i64 g.rl.r9, .int .i64 g.rl.r10, .int .i64 g.rl.r11, .int .i64 g.rl.r12, .int .i64 g.rl.r13, .int .i64 g.rl.r14, .slice aoE g.ents.length capE]] w fun r w' => r = .returned (.bool (grpB g)) ∧ Keeps w w' := by
  have hmm := @run_makeMap Tryz.prog
  obtain ⟨ho1, ho2, ho3, ho4, ho5, ho6⟩ := hgo
  have hcapE := HE.capE
  have hleE := HE.leE
  have HGB : Hid (RowB (w.alloc (.cells (g.cells (.slice aoC g.chart.length capC) (.slice aoE g.ents.length capE)).toArray 29)) w.heap.size 29 (g.cells (.slice aoC g.chart.length capC) (.slice aoE g.ents.length capE))) := Lib.hid (RowB.new w _ _)
  have HU : Hid (∀ W, Calls Tryz.prog 62 #[.string g.cur] W fun r w' => r = .returned (.bool (curB g.cur)) ∧ W = w') := Lib.hid (fun W => curP_any _ ho1 W)
  have HCV : Hid (∀ W, Calls Tryz.prog 63 #[.agg #[.int .i64 g.y, .int .i64 g.m, .int .i64 g.n]] W fun r w' => r = .returned (.bool (calB g.y g.m g.n)) ∧ Keeps W w') := Lib.hid (fun W => validC_any g.y g.m g.n W)
  have HAC : Hid (∀ W, Keeps w W → Calls Tryz.prog 64 #[.agg #[.string g.cur, .int .i64 g.y, .int .i64 g.m, .int .i64 g.n, .slice aoC g.chart.length capC, .int .i64 g.rl.r0, .int .i64 g.rl.r1, .int .i64 g.rl.r2, .int .i64 g.rl.r3, .int .i64 g.rl.r4, .int .i64 g.rl.r5, .int .i64 g.rl.r6, .int .i64 g.rl.r7, .int .i64 g.rl.r8, .int .i64 g.rl.r9, .int .i64 g.rl.r10, .int .i64 g.rl.r11, .int .i64 g.rl.r12, .int .i64 g.rl.r13, .int .i64 g.rl.r14, .slice aoE g.ents.length capE]] W fun r w' => r = .returned (.bool (accB g)) ∧ Keeps W w') := Lib.hid (fun W hk => acc_any g _ aoC capC bC oC W (H.keeps hk) ho2 ho3 ho4)
  have HEN : Hid (∀ (e : Ent), e.Ok → ∀ aoX capX bX oX aoL capL bL oL W, Keeps w W → Accs W aoX e.chart capX bX oX → Lnks W aoL e.links capL bL oL → Calls Tryz.prog 65 #[.agg #[.string g.cur, .int .i64 g.y, .int .i64 g.m, .int .i64 g.n, .slice aoC g.chart.length capC, .int .i64 g.rl.r0, .int .i64 g.rl.r1, .int .i64 g.rl.r2, .int .i64 g.rl.r3, .int .i64 g.rl.r4, .int .i64 g.rl.r5, .int .i64 g.rl.r6, .int .i64 g.rl.r7, .int .i64 g.rl.r8, .int .i64 g.rl.r9, .int .i64 g.rl.r10, .int .i64 g.rl.r11, .int .i64 g.rl.r12, .int .i64 g.rl.r13, .int .i64 g.rl.r14, .slice aoE g.ents.length capE], .agg #[.string e.name, .string e.cur, .slice aoX e.chart.length capX, .slice aoL e.links.length capL, .bool e.joint]] W fun r w' => r = .returned (.bool (entB g e)) ∧ Keeps W w') := Lib.hid (fun e heo aoX capX bX oX aoL capL bL oL W hk hx hl => ent_any g _ e aoC capC bC oC aoX capX bX oX aoL capL bL oL W (H.keeps hk) hx hl ho2 ho3 ho4 heo)
  have HHE := Lib.hid HE
  have HO5 := Lib.hid ho5
  clear H HE ho3 ho4 ho5
  cases h1 : curB g.cur with
  | false =>
    have HBD := Lib.hid (grpB_1 h1)
    rw [h1] at HU
    clear h1
    go_enter Tryz.func38, Tryz.ntmps38
    go_wp2_with (go_at_call 62; (refine (HU.out _).mono ?_); rintro e1 w1 ⟨rfl, rfl⟩)
    go_ret
    rw [HBD.out]
    exact ⟨rfl, (Keeps.refl w).alloc _⟩
  | true =>
    rw [h1] at HU
    cases h2 : calB g.y g.m g.n with
    | false =>
      have HBD := Lib.hid (grpB_2 h2)
      rw [h2] at HCV
      clear h1 h2
      go_enter Tryz.func38, Tryz.ntmps38
      go_wp2_with (first | (go_at_call 62; (refine (HU.out _).mono ?_); rintro e1 w1 ⟨rfl, rfl⟩) | (go_at_call 63; (refine (HCV.out _).mono ?_); rintro e1 w1 ⟨rfl, hk1⟩; have K1 := Lib.hid (((Keeps.refl w).alloc (.cells (g.cells (.slice aoC g.chart.length capC) (.slice aoE g.ents.length capE)).toArray 29)).trans hk1); have G1 := Lib.hid (HGB.out.keeps hk1); have x20 := hk1.cell (p := ⟨w.heap.size, 20, none⟩) (v := .slice aoE g.ents.length capE) (by go_simp); have hz1 := World.block_lt_of_cell? _ _ x20; clear hk1))
      go_ret
      rw [HBD.out]
      exact ⟨rfl, K1.out⟩
    | true =>
      rw [h2] at HCV
      cases h3 : accB g with
      | false =>
        have HBD := Lib.hid (grpB_3 h3)
        rw [h3] at HAC
        clear h1 h2 h3
        go_enter Tryz.func38, Tryz.ntmps38
        go_wp2_with (first | (go_at_call 62; (refine (HU.out _).mono ?_); rintro e1 w1 ⟨rfl, rfl⟩) | (go_at_call 63; (refine (HCV.out _).mono ?_); rintro e1 w1 ⟨rfl, hk1⟩; have K1 := Lib.hid (((Keeps.refl w).alloc (.cells (g.cells (.slice aoC g.chart.length capC) (.slice aoE g.ents.length capE)).toArray 29)).trans hk1); have G1 := Lib.hid (HGB.out.keeps hk1); have x20 := hk1.cell (p := ⟨w.heap.size, 20, none⟩) (v := .slice aoE g.ents.length capE) (by go_simp); have hz1 := World.block_lt_of_cell? _ _ x20; clear hk1) | (go_at_call 64; (refine (HAC.out _ K1.out).mono ?_); rintro e2 w2 ⟨rfl, hk2⟩; have K2 := Lib.hid (K1.out.trans hk2); have G2 := Lib.hid (G1.out.keeps hk2); have y20 := hk2.cell x20; have hz2 := World.block_lt_of_cell? _ _ y20; clear hk2 x20 hz1) | (refine wpList_rowG 29 _ rfl rfl w.heap.size (g.cells (.slice aoC g.chart.length capC) (.slice aoE g.ents.length capE)) _ rfl (RowB.range G1.out) Tryz.underlying29 rfl groupSize ?_))
        go_ret
        rw [HBD.out]
        exact ⟨rfl, K2.out⟩
      | true =>
        rw [h3] at HAC
        by_cases h4 : g.ents.length < 1
        · have HBD := Lib.hid (grpB_4 h4)
          have e4 : decide (((g.ents.length : Nat) : Int) < 1) = true := decide_eq_true (by omega)
          clear h1 h2 h3 h4
          go_enter Tryz.func38, Tryz.ntmps38
          go_wp2_with (first | (go_at_call 62; (refine (HU.out _).mono ?_); rintro e1 w1 ⟨rfl, rfl⟩) | (go_at_call 63; (refine (HCV.out _).mono ?_); rintro e1 w1 ⟨rfl, hk1⟩; have K1 := Lib.hid (((Keeps.refl w).alloc (.cells (g.cells (.slice aoC g.chart.length capC) (.slice aoE g.ents.length capE)).toArray 29)).trans hk1); have G1 := Lib.hid (HGB.out.keeps hk1); have x20 := hk1.cell (p := ⟨w.heap.size, 20, none⟩) (v := .slice aoE g.ents.length capE) (by go_simp); have hz1 := World.block_lt_of_cell? _ _ x20; clear hk1) | (go_at_call 64; (refine (HAC.out _ K1.out).mono ?_); rintro e2 w2 ⟨rfl, hk2⟩; have K2 := Lib.hid (K1.out.trans hk2); have G2 := Lib.hid (G1.out.keeps hk2); have y20 := hk2.cell x20; have hz2 := World.block_lt_of_cell? _ _ y20; clear hk2 x20 hz1) | (refine wpList_rowG 29 _ rfl rfl w.heap.size (g.cells (.slice aoC g.chart.length capC) (.slice aoE g.ents.length capE)) _ rfl (RowB.range G1.out) Tryz.underlying29 rfl groupSize ?_))
          go_ret
          rw [HBD.out]
          exact ⟨rfl, K2.out⟩
        by_cases h5 : 12 < g.ents.length
        · have HBD := Lib.hid (grpB_5 h5)
          have e4 : decide (((g.ents.length : Nat) : Int) < 1) = false := decide_eq_false (by omega)
          have e5 : decide (12 < ((g.ents.length : Nat) : Int)) = true := decide_eq_true (by omega)
          clear h1 h2 h3 h4 h5
          go_enter Tryz.func38, Tryz.ntmps38
          go_wp2_with (first | (go_at_call 62; (refine (HU.out _).mono ?_); rintro e1 w1 ⟨rfl, rfl⟩) | (go_at_call 63; (refine (HCV.out _).mono ?_); rintro e1 w1 ⟨rfl, hk1⟩; have K1 := Lib.hid (((Keeps.refl w).alloc (.cells (g.cells (.slice aoC g.chart.length capC) (.slice aoE g.ents.length capE)).toArray 29)).trans hk1); have G1 := Lib.hid (HGB.out.keeps hk1); have x20 := hk1.cell (p := ⟨w.heap.size, 20, none⟩) (v := .slice aoE g.ents.length capE) (by go_simp); have hz1 := World.block_lt_of_cell? _ _ x20; clear hk1) | (go_at_call 64; (refine (HAC.out _ K1.out).mono ?_); rintro e2 w2 ⟨rfl, hk2⟩; have K2 := Lib.hid (K1.out.trans hk2); have G2 := Lib.hid (G1.out.keeps hk2); have y20 := hk2.cell x20; have hz2 := World.block_lt_of_cell? _ _ y20; clear hk2 x20 hz1) | (refine wpList_rowG 29 _ rfl rfl w.heap.size (g.cells (.slice aoC g.chart.length capC) (.slice aoE g.ents.length capE)) _ rfl (RowB.range G1.out) Tryz.underlying29 rfl groupSize ?_))
          go_ret
          rw [HBD.out]
          exact ⟨rfl, K2.out⟩
        have e4 : decide (((g.ents.length : Nat) : Int) < 1) = false := decide_eq_false (by omega)
        have e5 : decide (12 < ((g.ents.length : Nat) : Int)) = false := decide_eq_false (by omega)
        have hlt0 : 0 < g.ents.length := by omega
        have hj0 : jointAt g 0 = g.ents[0].joint := by unfold jointAt; rw [List.getElem?_eq_getElem hlt0]; rfl
        have hj : w.cell? ⟨bE, oE + 4, none⟩ = some (.bool g.ents[0].joint) := by
          obtain ⟨_, _, _, _, _, _, _, _, _, _, hr⟩ := HHE.out.ent 0 hlt0
          have := hr 4 _ rfl
          simpa using this
        have hix0 := HHE.out.atE 0 hlt0
        simp only [Nat.zero_mul, Nat.add_zero, Int.natCast_zero] at hix0
        rw [← hj0] at hj
        have HJ := Lib.hid hj
        cases h6 : jointAt g 0 with
        | true =>
          have HBD := Lib.hid (grpB_6 h6)
          rw [h6] at HJ
          clear h1 h2 h3 h4 h5 h6 hj0 hj
          go_enter Tryz.func38, Tryz.ntmps38
          go_wp2_with (first | (go_at_call 62; (refine (HU.out _).mono ?_); rintro e1 w1 ⟨rfl, rfl⟩) | (go_at_call 63; (refine (HCV.out _).mono ?_); rintro e1 w1 ⟨rfl, hk1⟩; have K1 := Lib.hid (((Keeps.refl w).alloc (.cells (g.cells (.slice aoC g.chart.length capC) (.slice aoE g.ents.length capE)).toArray 29)).trans hk1); have G1 := Lib.hid (HGB.out.keeps hk1); have x20 := hk1.cell (p := ⟨w.heap.size, 20, none⟩) (v := .slice aoE g.ents.length capE) (by go_simp); have hz1 := World.block_lt_of_cell? _ _ x20; clear hk1) | ((go_at_call 64; (refine (HAC.out _ K1.out).mono ?_); rintro e2 w2 ⟨rfl, hk2⟩; have K2 := Lib.hid (K1.out.trans hk2); have G2 := Lib.hid (G1.out.keeps hk2); have y20 := hk2.cell x20; have hz2 := World.block_lt_of_cell? _ _ y20; clear hk2 x20 hz1); have hjw := K2.out.cell HJ.out) | (refine wpList_rowG 29 _ rfl rfl w.heap.size (g.cells (.slice aoC g.chart.length capC) (.slice aoE g.ents.length capE)) _ rfl (RowB.range G1.out) Tryz.underlying29 rfl groupSize ?_))
          go_ret
          rw [HBD.out]
          exact ⟨rfl, K2.out⟩
        | false =>
          have HGD := Lib.hid (grpB_8 h1 h2 h3 (by omega) (by omega) h6)
          rw [h6] at HJ
          clear h1 h2 h3 h4 h5 h6 hj0 hj
          go_enter Tryz.func38, Tryz.ntmps38
          go_wp2_with (first | (go_at_call 62; (refine (HU.out _).mono ?_); rintro e1 w1 ⟨rfl, rfl⟩) | (go_at_call 63; (refine (HCV.out _).mono ?_); rintro e1 w1 ⟨rfl, hk1⟩; have K1 := Lib.hid (((Keeps.refl w).alloc (.cells (g.cells (.slice aoC g.chart.length capC) (.slice aoE g.ents.length capE)).toArray 29)).trans hk1); have G1 := Lib.hid (HGB.out.keeps hk1); have x20 := hk1.cell (p := ⟨w.heap.size, 20, none⟩) (v := .slice aoE g.ents.length capE) (by go_simp); have hz1 := World.block_lt_of_cell? _ _ x20; clear hk1) | ((go_at_call 64; (refine (HAC.out _ K1.out).mono ?_); rintro e2 w2 ⟨rfl, hk2⟩; have K2 := Lib.hid (K1.out.trans hk2); have G2 := Lib.hid (G1.out.keeps hk2); have y20 := hk2.cell x20; have hz2 := World.block_lt_of_cell? _ _ y20; clear hk2 x20 hz1); have hjw := K2.out.cell HJ.out) | (refine wpList_rowG 29 _ rfl rfl w.heap.size (g.cells (.slice aoC g.chart.length capC) (.slice aoE g.ents.length capE)) _ rfl (RowB.range G1.out) Tryz.underlying29 rfl groupSize ?_))
          have HG2 := Lib.hid (G2.out.alloc (.map #[] 0))
          go_loopw [44] (fun vi wr => ∃ k : Nat, k ≤ g.ents.length ∧ vi = .int .i64 k ∧ Hid (∀ j, j < k → okEnt g j = true) ∧ Hid (Keeps w wr ∧ (w2.alloc (.map #[] 0)).grownBy wr (some w2.heap.size) ∧ VMap strK wr w2.heap.size k (seenS ((g.ents.take k).map Ent.name)))) (fun vi _ => g.ents.length - (intOf vi).toNat)
          case atStart => exact ⟨0, Nat.zero_le _, rfl, Lib.hid (fun j hj => absurd hj (Nat.not_lt_zero _)), Lib.hid ⟨K2.out.alloc _, World.grownBy.refl _ _, by rw [List.take_zero, List.map_nil, seenS_nil]; exact VMap.made strK w2⟩⟩
          case round =>
            obtain ⟨k, hk, rfl, HN, HW⟩ := hrel
            by_cases hlt : k < g.ents.length
            · have hgk := HG2.out.kept HW.out.2.1 (by intro e; simp at e; omega)
              have heok := HO5.out _ (List.getElem_mem hlt)
              have hokl := okEnt_at hlt
              have hixe := HHE.out.atE k hlt
              have HTK : Hid (g.ents.take (k + 1) = g.ents.take k ++ [g.ents[k]]) := Lib.hid (take_snoc _ _ hlt)
              obtain ⟨aoX, capX, bX, oX, aoL, capL, bL, oL, hX, hL, hr⟩ := (HHE.out.keeps HW.out.1).ent k hlt
              obtain ⟨e, he⟩ : ∃ e, g.ents[k] = e := ⟨_, rfl⟩
              rw [he] at hX hL hr heok hokl HTK
              have HGr := Lib.hid (hgk.alloc (.cells #[.string e.name, .string e.cur, .slice aoX e.chart.length capX, .slice aoL e.links.length capL, .bool e.joint] 106))
              have HXr := Lib.hid (hX.keeps ((Keeps.refl wr).alloc (.cells #[.string e.name, .string e.cur, .slice aoX e.chart.length capX, .slice aoL e.links.length capL, .bool e.joint] 106)))
              have HLr := Lib.hid (hL.keeps ((Keeps.refl wr).alloc (.cells #[.string e.name, .string e.cur, .slice aoX e.chart.length capX, .slice aoL e.links.length capL, .bool e.joint] 106)))
              have c0 := hr 0 _ rfl
              have c1 := hr 1 _ rfl
              have c2 := hr 2 _ rfl
              have c3 := hr 3 _ rfl
              have c4 := hr 4 _ rfl
              simp only [Nat.add_zero] at c0
              have hzr := World.block_lt_of_cell? _ _ c0
              have hzg := hgk.lt
              obtain ⟨s, hs⟩ : ∃ s, (g.ents.take k).any (fun q => decide (q.name = e.name)) = s := ⟨_, rfl⟩
              rw [hs] at hokl
              have hlk : (Instr.lookup 134 (.map (some w2.heap.size)) (.string e.name) false).run Tryz.prog (wr.alloc (.cells #[.string e.name, .string e.cur, .slice aoX e.chart.length capX, .slice aoL e.links.length capL, .bool e.joint] 106)) = .ok (.bool s) (wr.alloc (.cells #[.string e.name, .string e.cur, .slice aoX e.chart.length capX, .slice aoL e.links.length capL, .bool e.joint] 106)) := by
                have := (HW.out.2.2.alloc (.cells #[.string e.name, .string e.cur, .slice aoX e.chart.length capX, .slice aoL e.links.length capL, .bool e.joint] 106)).look Tryz.underlying134 (fun w => Tryz.zeroValue4 w) (a := e.name) heok.1 _ rfl
                rw [seenS_get, List.any_map] at this
                rw [← hs]
                exact this
              have HEO := Lib.hid heok
              clear hgk hX hL hr he hs heok
              cases s with
              | true =>
                have HBD := Lib.hid (grpB_7 hlt (hokl.trans rfl))
                clear hokl
                go_wp2_with fail
                go_ret
                rw [HBD.out]
                exact ⟨rfl, HW.out.1.alloc _⟩
              | false =>
                have HEV : Hid (Calls Tryz.prog 65 #[.agg #[.string g.cur, .int .i64 g.y, .int .i64 g.m, .int .i64 g.n, .slice aoC g.chart.length capC, .int .i64 g.rl.r0, .int .i64 g.rl.r1, .int .i64 g.rl.r2, .int .i64 g.rl.r3, .int .i64 g.rl.r4, .int .i64 g.rl.r5, .int .i64 g.rl.r6, .int .i64 g.rl.r7, .int .i64 g.rl.r8, .int .i64 g.rl.r9, .int .i64 g.rl.r10, .int .i64 g.rl.r11, .int .i64 g.rl.r12, .int .i64 g.rl.r13, .int .i64 g.rl.r14, .slice aoE g.ents.length capE], .agg #[.string e.name, .string e.cur, .slice aoX e.chart.length capX, .slice aoL e.links.length capL, .bool e.joint]] (wr.alloc (.cells #[.string e.name, .string e.cur, .slice aoX e.chart.length capX, .slice aoL e.links.length capL, .bool e.joint] 106)) fun r w' => r = .returned (.bool (entB g e)) ∧ Keeps (wr.alloc (.cells #[.string e.name, .string e.cur, .slice aoX e.chart.length capX, .slice aoL e.links.length capL, .bool e.joint] 106)) w') := Lib.hid (HEN.out e HEO.out aoX capX bX oX aoL capL bL oL _ (HW.out.1.alloc _) HXr.out HLr.out)
                cases hq : entB g e with
                | false =>
                  rw [hq] at HEV hokl
                  have HBD := Lib.hid (grpB_7 hlt (hokl.trans rfl))
                  clear hokl hq
                  go_wp2_with (first | (refine wpList_rowG 29 _ rfl rfl w.heap.size (g.cells (.slice aoC g.chart.length capC) (.slice aoE g.ents.length capE)) _ rfl (RowB.range HGr.out) Tryz.underlying29 rfl groupSize ?_) | (go_at_call 65; (refine HEV.out.mono ?_); rintro e4 w4 ⟨rfl, hk4⟩))
                  go_ret
                  rw [HBD.out]
                  exact ⟨rfl, (HW.out.1.alloc _).trans hk4⟩
                | true =>
                  rw [hq] at HEV hokl
                  have HOE : Hid (okEnt g k = true) := Lib.hid (hokl.trans rfl)
                  clear hokl hq
                  go_wp2_with (first | (refine wpList_rowG 29 _ rfl rfl w.heap.size (g.cells (.slice aoC g.chart.length capC) (.slice aoE g.ents.length capE)) _ rfl (RowB.range HGr.out) Tryz.underlying29 rfl groupSize ?_) | (go_at_call 65; (refine HEV.out.mono ?_); rintro e4 w4 ⟨rfl, hk4⟩; have z0 := hk4.cell (p := ⟨wr.heap.size, 0, none⟩) (v := .string e.name) (by go_simp); have hz4 := World.block_lt_of_cell? _ _ z0; have HM4 := Lib.hid ((HW.out.2.2.alloc _).keeps hk4); have K4 := Lib.hid hk4; clear hk4) | (refine wpList_vstore (K := strK) rfl _ _ _ 134 rfl Tryz.underlying134 w2.heap.size k rfl HM4.out (by unfold maxLen; omega) e.name HEO.out.1 rfl (.bool true) rfl (seenS ((g.ents.take (k + 1)).map Ent.name)) (by rw [HTK.out, List.map_append]; exact (seenS_snoc _ _).1) (fun d _ hd => by rw [HTK.out, List.map_append]; exact (seenS_snoc _ _).2 d hd) ?_; intro w5 hm5 hg5; have HX : Hid (Keeps w w5 ∧ (w2.alloc (.map #[] 0)).grownBy w5 (some w2.heap.size) ∧ VMap strK w5 w2.heap.size (k + 1) (seenS ((g.ents.take (k + 1)).map Ent.name))) := Lib.hid ⟨Below.grown ((HW.out.1.alloc _).trans K4.out) hg5 ((HW.out.1.alloc _).trans K4.out).size (fun j hj => by cases hj; exact K2.out.size), ((HW.out.2.1.trans (World.grownBy_alloc _ _ _)).trans (keeps_grown K4.out _)).trans hg5, hm5⟩; clear hm5 hg5))
                  go_roundw
                  case rel => exact ⟨k + 1, by omega, by go_num, Lib.hid (fun j hj => by by_cases h : j < k; (exact HN.out j h); (rw [show j = k from by omega]; exact HOE.out)), HX⟩
                  case measure => simp [intOf]; omega
            · have HGE := Lib.hid (HGD.out (fun j hj => HN.out j (by omega)))
              go_wp2_with fail
              go_ret
              rw [HGE.out]
              exact ⟨rfl, HW.out.1⟩
end Go.Proofs.YtoaidbhiciaeaaaGreat

end
section
namespace Go.Proofs.YtoaidbhiciaeaaaGreat
set_option linter.unusedSimpArgs false
set_option linter.unusedVariables false
structure Ivl where
  frm : Int
  to : Int
  mth : Int
deriving DecidableEq
def endsAt (x : Ivl) (d : Int) : Ivl := ⟨x.frm, d, x.mth⟩
def stepI (m : Int → Int) (out : List Ivl) (d : Int) : List Ivl := match out.getLast? with
  | none => [⟨d, 84006, m d⟩]
  | some x => if x.mth = m d then out else out.dropLast ++ [endsAt x d] ++ [⟨d, 84006, m d⟩]
def ivsF (m : Int → Int) (D : List Int) : List Ivl := D.foldl (stepI m) []
theorem ivsF_snoc (m : Int → Int) (D : List Int) (d : Int) : ivsF m (D ++ [d]) = stepI m (ivsF m D) d := by simp [ivsF, List.foldl_append]
theorem stepI_same {m : Int → Int} {out : List Ivl} {x : Ivl} {d : Int} (h : x.mth = m d) : stepI m (out ++ [x]) d = out ++ [x] := by
  unfold stepI; rw [List.getLast?_append]; simp [h]
theorem stepI_new {m : Int → Int} {out : List Ivl} {x : Ivl} {d : Int} (h : x.mth ≠ m d) : stepI m (out ++ [x]) d = out ++ [endsAt x d] ++ [⟨d, 84006, m d⟩] := by
  unfold stepI; rw [List.getLast?_append]; simp [h]
theorem snoc_indI {α : Type} {p : List α → Prop} (h0 : p []) (h1 : ∀ l x, p l → p (l ++ [x])) : ∀ l, p l := by
  have key : ∀ (n : Nat) (l : List α), l.length = n → p l := by
    intro n
    induction n with
    | zero => intro l hl; rw [List.eq_nil_of_length_eq_zero hl]; exact h0
    | succ n ih =>
      intro l hl
      have hne : l ≠ [] := by intro e; subst e; simp at hl
      rw [← List.dropLast_concat_getLast hne]
      exact h1 _ _ (ih _ (by simp [hl]))
  exact fun l => key _ l rfl
theorem ivsF_last {m : Int → Int} : ∀ {D : List Int} {z : Int}, D.getLast? = some z → ∃ o x, ivsF m D = o ++ [x] ∧ x.mth = m z := by
  intro D
  induction D using snoc_indI with
  | h0 => intro z h; simp at h
  | h1 D d ih =>
    intro z hz
    simp at hz; subst hz
    rw [ivsF_snoc]
    by_cases hD : D = []
    · subst hD; exact ⟨[], ⟨d, 84006, m d⟩, rfl, rfl⟩
    · obtain ⟨o, x, ho, hx⟩ := ih (List.getLast?_eq_some_getLast hD)
      rw [ho]
      by_cases hm : x.mth = m d
      · rw [stepI_same hm]; exact ⟨o, x, rfl, hm⟩
      · rw [stepI_new hm]; exact ⟨_, _, rfl, rfl⟩
end Go.Proofs.YtoaidbhiciaeaaaGreat

end
section
namespace Go.Proofs.YtoaidbhiciaeaaaGreat
open Go.RowKit
set_option linter.unusedSimpArgs false
set_option linter.unusedVariables false
def mAt (js : List Bool) (l : List Hol) (e : Nat) : Int → Int := fun d => mthE (f0 l d) js e
def sdays (xs : List Int) : List Int := -25567 :: xs.filter fun d => decide (-25567 < d)
def ivR (js : List Bool) (l : List Hol) (xs : List Int) (entity : Int) : List Ivl × Int :=
  if hvalidB (js.length : Int) l = false then ([], 1) else if ¬ (0 ≤ entity ∧ entity < (js.length : Int)) then ([], 2) else if entity = 0 then ([⟨-25568, 84006, 3⟩], 0) else (ivsF (mAt js l entity.toNat) (sdays xs), 0)
theorem ivR_1 {js : List Bool} {l : List Hol} {xs : List Int} {entity : Int} (h : hvalidB (js.length : Int) l = false) : ivR js l xs entity = ([], 1) := by unfold ivR; rw [if_pos h]
theorem ivR_2 {js : List Bool} {l : List Hol} {xs : List Int} {entity : Int} (h : hvalidB (js.length : Int) l = true) (h2 : ¬ (0 ≤ entity ∧ entity < (js.length : Int))) : ivR js l xs entity = ([], 2) := by unfold ivR; rw [if_neg (by simp [h]), if_pos h2]
theorem ivR_3 {js : List Bool} {l : List Hol} {xs : List Int} {entity : Int} (h : hvalidB (js.length : Int) l = true) (h2 : 0 ≤ entity ∧ entity < (js.length : Int)) (h3 : entity = 0) : ivR js l xs entity = ([⟨-25568, 84006, 3⟩], 0) := by unfold ivR; rw [if_neg (by simp [h]), if_neg (fun h => h h2), if_pos h3]
theorem ivR_4 {js : List Bool} {l : List Hol} {xs : List Int} {entity : Int} (h : hvalidB (js.length : Int) l = true) (h2 : 0 ≤ entity ∧ entity < (js.length : Int)) (h3 : entity ≠ 0) : ivR js l xs entity = (ivsF (mAt js l entity.toNat) (sdays xs), 0) := by unfold ivR; rw [if_neg (by simp [h]), if_neg (fun h => h h2), if_neg h3]
theorem sdays_ne (xs : List Int) : sdays xs ≠ [] := by simp [sdays]
def curI (out : List Ivl) (d : Int) : Option Ivl := if dateB d = true then out.find? (fun x => decide (x.frm ≤ d) && decide (d < x.to)) else none
def curR (r : List Ivl × Int) (d : Int) : Ivl × Int := if r.2 = 0 then (match curI r.1 d with | some x => (x, 0) | none => (⟨0, 0, 0⟩, 2)) else (⟨0, 0, 0⟩, r.2)
end Go.Proofs.YtoaidbhiciaeaaaGreat

end
