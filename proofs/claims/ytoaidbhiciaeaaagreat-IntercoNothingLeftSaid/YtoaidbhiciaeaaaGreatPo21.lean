/- Walks and plain facts that the claim rests on (GrpV, IvlP, ScopeP, HolDatesO). No condition. -/
import Derived.Test.YtoaidbhiciaeaaaGreatPo20
import Derived.Test.YtoaidbhiciaeaaaGreatPo18
import Derived.Test.YtoaidbhiciaeaaaGreatPo07
set_option linter.unusedSimpArgs false
set_option linter.unusedVariables false
set_option maxHeartbeats 16000000
section
namespace Go.Proofs.YtoaidbhiciaeaaaGreat
open Go.RowKit
theorem wpList_rowG {w:World} {ops:Array Oper} {rest:List Oper} {op:Oper} {a:Act} {Q:Exit→Act→World→Prop} (ty:TypeId) (x:Operand) (ho:op.op=.load ty x) (hw:Region.wanted op (yielded ops a.tmps)=true)
  (b:Nat) (bv:List Value) (d:TypeDesc) (hx:a.eval x=.pointer (some ⟨b,0,none⟩)) (hc:w.rangeAt b 0 bv) (hu:Tryz.prog.underlying ty=some d) (hd:d.isRow=true) (hi:(Tryz.prog.info? ty).map (·.size)=some bv.length)
  (h:wpList Tryz.prog ops Q rest (a.put op.dst (.agg bv.toArray)) w):wpList Tryz.prog ops Q (op :: rest) a w:=
 Go.BigFrame.wpList_want hw fun K hK=>wp_load_mid ty x ho b 0 hx bv d hc hu hd hi (hK _ _ h)
theorem grpB_1 {g:Grp} (h:curB g.cur=false):grpB g=false:=by unfold grpB;rw [h];rfl
theorem grpB_2 {g:Grp} (h:calB g.y g.m g.n=false):grpB g=false:=by unfold grpB;rw [h];simp
theorem grpB_3 {g:Grp} (h:accB g=false):grpB g=false:=by unfold grpB;rw [h];simp
theorem grpB_4 {g:Grp} (h:g.ents.length < 1):grpB g=false:=by unfold grpB;rw [decide_eq_false (by omega:¬ 1≤g.ents.length)];simp
theorem grpB_5 {g:Grp} (h:12 < g.ents.length):grpB g=false:=by unfold grpB;rw [decide_eq_false (by omega:¬ g.ents.length≤12)];simp
theorem grpB_6 {g:Grp} (h:jointAt g 0=true):grpB g=false:=by unfold grpB;rw [h];simp
theorem grpB_7 {g:Grp} {k:Nat} (hk:k < g.ents.length) (h:okEnt g k=false):grpB g=false:=by unfold grpB;rw [allr_false hk h];simp
theorem grpB_8 {g:Grp} (h1:curB g.cur=true) (h2:calB g.y g.m g.n=true) (h3:accB g=true) (h4:1≤g.ents.length) (h5:g.ents.length≤12) (h6:jointAt g 0=false) (h:∀ k,k < g.ents.length→okEnt g k=true):grpB g=true:=by
 unfold grpB
 rw [allr_true h,h1,h2,h3,h6,decide_eq_true h4,decide_eq_true h5];rfl
set_option maxRecDepth 100000 in
theorem grp_any (g:Grp) (aoC:Option Addr) (capC bC oC:Nat) (aoE:Option Addr) (capE bE oE:Nat) (w:World) (H:Accs w aoC g.chart capC bC oC) (HE:EntsV w aoE g.ents capE bE oE) (hgo:g.Ok) :
  Calls Tryz.prog 38 #[.agg #[.string g.cur,.int .i64 g.y,.int .i64 g.m,.int .i64 g.n,.slice aoC g.chart.length capC,.int .i64 g.rl.r0,.int .i64 g.rl.r1,.int .i64 g.rl.r2,.int .i64 g.rl.r3,.int .i64 g.rl.r4,.int .i64 g.rl.r5,.int .i64 g.rl.r6,.int .i64 g.rl.r7,.int .i64 g.rl.r8,.int .i64 g.rl.r9,.int .i64 g.rl.r10,.int .i64 g.rl.r11,.int .i64 g.rl.r12,.int .i64 g.rl.r13,.int .i64 g.rl.r14,.slice aoE g.ents.length capE]] w fun r w'=>r=.returned (.bool (grpB g))∧Keeps w w':=by
 have hmm:=@run_makeMap Tryz.prog
 obtain ⟨ho1,ho2,ho3,ho4,ho5,ho6⟩:=hgo
 have hcapE:=HE.capE
 have hleE:=HE.leE
 have HGB:Hid (RowB (w.alloc (.cells (g.cells (.slice aoC g.chart.length capC) (.slice aoE g.ents.length capE)).toArray 29)) w.heap.size 29 (g.cells (.slice aoC g.chart.length capC) (.slice aoE g.ents.length capE))):=Lib.hid (RowB.new w _ _)
 have HU:Hid (∀ W,Calls Tryz.prog 62 #[.string g.cur] W fun r w'=>r=.returned (.bool (curB g.cur))∧W=w'):=Lib.hid (fun W=>curP_any _ ho1 W)
 have HCV:Hid (∀ W,Calls Tryz.prog 63 #[.agg #[.int .i64 g.y,.int .i64 g.m,.int .i64 g.n]] W fun r w'=>r=.returned (.bool (calB g.y g.m g.n))∧Keeps W w'):=Lib.hid (fun W=>validC_any g.y g.m g.n W)
 have HAC:Hid (∀ W,Keeps w W→Calls Tryz.prog 64 #[.agg #[.string g.cur,.int .i64 g.y,.int .i64 g.m,.int .i64 g.n,.slice aoC g.chart.length capC,.int .i64 g.rl.r0,.int .i64 g.rl.r1,.int .i64 g.rl.r2,.int .i64 g.rl.r3,.int .i64 g.rl.r4,.int .i64 g.rl.r5,.int .i64 g.rl.r6,.int .i64 g.rl.r7,.int .i64 g.rl.r8,.int .i64 g.rl.r9,.int .i64 g.rl.r10,.int .i64 g.rl.r11,.int .i64 g.rl.r12,.int .i64 g.rl.r13,.int .i64 g.rl.r14,.slice aoE g.ents.length capE]] W fun r w'=>r=.returned (.bool (accB g))∧Keeps W w'):=Lib.hid (fun W hk=>acc_any g _ aoC capC bC oC W (H.keeps hk) ho2 ho3 ho4)
 have HEN:Hid (∀ (e:Ent),e.Ok→∀ aoX capX bX oX aoL capL bL oL W,Keeps w W→Accs W aoX e.chart capX bX oX→Lnks W aoL e.links capL bL oL→Calls Tryz.prog 65 #[.agg #[.string g.cur,.int .i64 g.y,.int .i64 g.m,.int .i64 g.n,.slice aoC g.chart.length capC,.int .i64 g.rl.r0,.int .i64 g.rl.r1,.int .i64 g.rl.r2,.int .i64 g.rl.r3,.int .i64 g.rl.r4,.int .i64 g.rl.r5,.int .i64 g.rl.r6,.int .i64 g.rl.r7,.int .i64 g.rl.r8,.int .i64 g.rl.r9,.int .i64 g.rl.r10,.int .i64 g.rl.r11,.int .i64 g.rl.r12,.int .i64 g.rl.r13,.int .i64 g.rl.r14,.slice aoE g.ents.length capE],.agg #[.string e.name,.string e.cur,.slice aoX e.chart.length capX,.slice aoL e.links.length capL,.bool e.joint]] W fun r w'=>r=.returned (.bool (entB g e))∧Keeps W w'):=Lib.hid (fun e heo aoX capX bX oX aoL capL bL oL W hk hx hl=>ent_any g _ e aoC capC bC oC aoX capX bX oX aoL capL bL oL W (H.keeps hk) hx hl ho2 ho3 ho4 heo)
 have HHE:=Lib.hid HE
 have HO5:=Lib.hid ho5
 clear H HE ho3 ho4 ho5
 cases h1:curB g.cur with
 | false=>
  have HBD:=Lib.hid (grpB_1 h1)
  rw [h1] at HU
  clear h1
  go_enter Tryz.func38,Tryz.ntmps38
  go_wp2_with (go_at_call 62;(refine (HU.out _).mono ?_);rintro e1 w1 ⟨rfl,rfl⟩)
  go_ret
  rw [HBD.out]
  exact ⟨rfl,(Keeps.refl w).alloc _⟩
 | true=>
  rw [h1] at HU
  cases h2:calB g.y g.m g.n with
  | false=>
   have HBD:=Lib.hid (grpB_2 h2)
   rw [h2] at HCV
   clear h1 h2
   go_enter Tryz.func38,Tryz.ntmps38
   go_wp2_with (first | (go_at_call 62;(refine (HU.out _).mono ?_);rintro e1 w1 ⟨rfl,rfl⟩) | (go_at_call 63;(refine (HCV.out _).mono ?_);rintro e1 w1 ⟨rfl,hk1⟩;have K1:=Lib.hid (((Keeps.refl w).alloc (.cells (g.cells (.slice aoC g.chart.length capC) (.slice aoE g.ents.length capE)).toArray 29)).trans hk1);have G1:=Lib.hid (HGB.out.keeps hk1);have x20:=hk1.cell (p:=⟨w.heap.size,20,none⟩) (v:=.slice aoE g.ents.length capE) (by go_simp);have hz1:=World.block_lt_of_cell? _ _ x20;clear hk1))
   go_ret
   rw [HBD.out]
   exact ⟨rfl,K1.out⟩
  | true=>
   rw [h2] at HCV
   cases h3:accB g with
   | false=>
    have HBD:=Lib.hid (grpB_3 h3)
    rw [h3] at HAC
    clear h1 h2 h3
    go_enter Tryz.func38,Tryz.ntmps38
    go_wp2_with (first | (go_at_call 62;(refine (HU.out _).mono ?_);rintro e1 w1 ⟨rfl,rfl⟩) | (go_at_call 63;(refine (HCV.out _).mono ?_);rintro e1 w1 ⟨rfl,hk1⟩;have K1:=Lib.hid (((Keeps.refl w).alloc (.cells (g.cells (.slice aoC g.chart.length capC) (.slice aoE g.ents.length capE)).toArray 29)).trans hk1);have G1:=Lib.hid (HGB.out.keeps hk1);have x20:=hk1.cell (p:=⟨w.heap.size,20,none⟩) (v:=.slice aoE g.ents.length capE) (by go_simp);have hz1:=World.block_lt_of_cell? _ _ x20;clear hk1) | (go_at_call 64;(refine (HAC.out _ K1.out).mono ?_);rintro e2 w2 ⟨rfl,hk2⟩;have K2:=Lib.hid (K1.out.trans hk2);have G2:=Lib.hid (G1.out.keeps hk2);have y20:=hk2.cell x20;have hz2:=World.block_lt_of_cell? _ _ y20;clear hk2 x20 hz1) | (refine wpList_rowG 29 _ rfl rfl w.heap.size (g.cells (.slice aoC g.chart.length capC) (.slice aoE g.ents.length capE)) _ rfl (RowB.range G1.out) Tryz.underlying29 rfl groupSize ?_))
    go_ret
    rw [HBD.out]
    exact ⟨rfl,K2.out⟩
   | true=>
    rw [h3] at HAC
    by_cases h4:g.ents.length < 1
    ·have HBD:=Lib.hid (grpB_4 h4)
     have e4:decide (((g.ents.length:Nat):Int) < 1)=true:=decide_eq_true (by omega)
     clear h1 h2 h3 h4
     go_enter Tryz.func38,Tryz.ntmps38
     go_wp2_with (first | (go_at_call 62;(refine (HU.out _).mono ?_);rintro e1 w1 ⟨rfl,rfl⟩) | (go_at_call 63;(refine (HCV.out _).mono ?_);rintro e1 w1 ⟨rfl,hk1⟩;have K1:=Lib.hid (((Keeps.refl w).alloc (.cells (g.cells (.slice aoC g.chart.length capC) (.slice aoE g.ents.length capE)).toArray 29)).trans hk1);have G1:=Lib.hid (HGB.out.keeps hk1);have x20:=hk1.cell (p:=⟨w.heap.size,20,none⟩) (v:=.slice aoE g.ents.length capE) (by go_simp);have hz1:=World.block_lt_of_cell? _ _ x20;clear hk1) | (go_at_call 64;(refine (HAC.out _ K1.out).mono ?_);rintro e2 w2 ⟨rfl,hk2⟩;have K2:=Lib.hid (K1.out.trans hk2);have G2:=Lib.hid (G1.out.keeps hk2);have y20:=hk2.cell x20;have hz2:=World.block_lt_of_cell? _ _ y20;clear hk2 x20 hz1) | (refine wpList_rowG 29 _ rfl rfl w.heap.size (g.cells (.slice aoC g.chart.length capC) (.slice aoE g.ents.length capE)) _ rfl (RowB.range G1.out) Tryz.underlying29 rfl groupSize ?_))
     go_ret
     rw [HBD.out]
     exact ⟨rfl,K2.out⟩
    by_cases h5:12 < g.ents.length
    ·have HBD:=Lib.hid (grpB_5 h5)
     have e4:decide (((g.ents.length:Nat):Int) < 1)=false:=decide_eq_false (by omega)
     have e5:decide (12 < ((g.ents.length:Nat):Int))=true:=decide_eq_true (by omega)
     clear h1 h2 h3 h4 h5
     go_enter Tryz.func38,Tryz.ntmps38
     go_wp2_with (first | (go_at_call 62;(refine (HU.out _).mono ?_);rintro e1 w1 ⟨rfl,rfl⟩) | (go_at_call 63;(refine (HCV.out _).mono ?_);rintro e1 w1 ⟨rfl,hk1⟩;have K1:=Lib.hid (((Keeps.refl w).alloc (.cells (g.cells (.slice aoC g.chart.length capC) (.slice aoE g.ents.length capE)).toArray 29)).trans hk1);have G1:=Lib.hid (HGB.out.keeps hk1);have x20:=hk1.cell (p:=⟨w.heap.size,20,none⟩) (v:=.slice aoE g.ents.length capE) (by go_simp);have hz1:=World.block_lt_of_cell? _ _ x20;clear hk1) | (go_at_call 64;(refine (HAC.out _ K1.out).mono ?_);rintro e2 w2 ⟨rfl,hk2⟩;have K2:=Lib.hid (K1.out.trans hk2);have G2:=Lib.hid (G1.out.keeps hk2);have y20:=hk2.cell x20;have hz2:=World.block_lt_of_cell? _ _ y20;clear hk2 x20 hz1) | (refine wpList_rowG 29 _ rfl rfl w.heap.size (g.cells (.slice aoC g.chart.length capC) (.slice aoE g.ents.length capE)) _ rfl (RowB.range G1.out) Tryz.underlying29 rfl groupSize ?_))
     go_ret
     rw [HBD.out]
     exact ⟨rfl,K2.out⟩
    have e4:decide (((g.ents.length:Nat):Int) < 1)=false:=decide_eq_false (by omega)
    have e5:decide (12 < ((g.ents.length:Nat):Int))=false:=decide_eq_false (by omega)
    have hlt0:0 < g.ents.length:=by omega
    have hj0:jointAt g 0=g.ents[0].joint:=by unfold jointAt;rw [List.getElem?_eq_getElem hlt0];rfl
    have hj:w.cell? ⟨bE,oE+4,none⟩=some (.bool g.ents[0].joint):=by
     obtain ⟨_,_,_,_,_,_,_,_,_,_,hr⟩:=HHE.out.ent 0 hlt0
     have:=hr 4 _ rfl
     simpa using this
    have hix0:=HHE.out.atE 0 hlt0
    simp only [Nat.zero_mul,Nat.add_zero,Int.natCast_zero] at hix0
    rw [← hj0] at hj
    have HJ:=Lib.hid hj
    cases h6:jointAt g 0 with
    | true=>
     have HBD:=Lib.hid (grpB_6 h6)
     rw [h6] at HJ
     clear h1 h2 h3 h4 h5 h6 hj0 hj
     go_enter Tryz.func38,Tryz.ntmps38
     go_wp2_with (first | (go_at_call 62;(refine (HU.out _).mono ?_);rintro e1 w1 ⟨rfl,rfl⟩) | (go_at_call 63;(refine (HCV.out _).mono ?_);rintro e1 w1 ⟨rfl,hk1⟩;have K1:=Lib.hid (((Keeps.refl w).alloc (.cells (g.cells (.slice aoC g.chart.length capC) (.slice aoE g.ents.length capE)).toArray 29)).trans hk1);have G1:=Lib.hid (HGB.out.keeps hk1);have x20:=hk1.cell (p:=⟨w.heap.size,20,none⟩) (v:=.slice aoE g.ents.length capE) (by go_simp);have hz1:=World.block_lt_of_cell? _ _ x20;clear hk1) | ((go_at_call 64;(refine (HAC.out _ K1.out).mono ?_);rintro e2 w2 ⟨rfl,hk2⟩;have K2:=Lib.hid (K1.out.trans hk2);have G2:=Lib.hid (G1.out.keeps hk2);have y20:=hk2.cell x20;have hz2:=World.block_lt_of_cell? _ _ y20;clear hk2 x20 hz1);have hjw:=K2.out.cell HJ.out) | (refine wpList_rowG 29 _ rfl rfl w.heap.size (g.cells (.slice aoC g.chart.length capC) (.slice aoE g.ents.length capE)) _ rfl (RowB.range G1.out) Tryz.underlying29 rfl groupSize ?_))
     go_ret
     rw [HBD.out]
     exact ⟨rfl,K2.out⟩
    | false=>
     have HGD:=Lib.hid (grpB_8 h1 h2 h3 (by omega) (by omega) h6)
     rw [h6] at HJ
     clear h1 h2 h3 h4 h5 h6 hj0 hj
     go_enter Tryz.func38,Tryz.ntmps38
     go_wp2_with (first | (go_at_call 62;(refine (HU.out _).mono ?_);rintro e1 w1 ⟨rfl,rfl⟩) | (go_at_call 63;(refine (HCV.out _).mono ?_);rintro e1 w1 ⟨rfl,hk1⟩;have K1:=Lib.hid (((Keeps.refl w).alloc (.cells (g.cells (.slice aoC g.chart.length capC) (.slice aoE g.ents.length capE)).toArray 29)).trans hk1);have G1:=Lib.hid (HGB.out.keeps hk1);have x20:=hk1.cell (p:=⟨w.heap.size,20,none⟩) (v:=.slice aoE g.ents.length capE) (by go_simp);have hz1:=World.block_lt_of_cell? _ _ x20;clear hk1) | ((go_at_call 64;(refine (HAC.out _ K1.out).mono ?_);rintro e2 w2 ⟨rfl,hk2⟩;have K2:=Lib.hid (K1.out.trans hk2);have G2:=Lib.hid (G1.out.keeps hk2);have y20:=hk2.cell x20;have hz2:=World.block_lt_of_cell? _ _ y20;clear hk2 x20 hz1);have hjw:=K2.out.cell HJ.out) | (refine wpList_rowG 29 _ rfl rfl w.heap.size (g.cells (.slice aoC g.chart.length capC) (.slice aoE g.ents.length capE)) _ rfl (RowB.range G1.out) Tryz.underlying29 rfl groupSize ?_))
     have HG2:=Lib.hid (G2.out.alloc (.map #[] 0))
     go_loopw [44] (fun vi wr=>∃ k:Nat,k≤g.ents.length∧vi=.int .i64 k∧Hid (∀ j,j < k→okEnt g j=true)∧Hid (Keeps w wr∧(w2.alloc (.map #[] 0)).grownBy wr (some w2.heap.size)∧VMap strK wr w2.heap.size k (seenS ((g.ents.take k).map Ent.name)))) (fun vi _=>g.ents.length - (intOf vi).toNat)
     case atStart=>exact ⟨0,Nat.zero_le _,rfl,Lib.hid (fun j hj=>absurd hj (Nat.not_lt_zero _)),Lib.hid ⟨K2.out.alloc _,World.grownBy.refl _ _,by rw [List.take_zero,List.map_nil,seenS_nil];exact VMap.made strK w2⟩⟩
     case round=>
      obtain ⟨k,hk,rfl,HN,HW⟩:=hrel
      by_cases hlt:k < g.ents.length
      ·have hgk:=HG2.out.kept HW.out.2.1 (by intro e;simp at e;omega)
       have heok:=HO5.out _ (List.getElem_mem hlt)
       have hokl:=okEnt_at hlt
       have hixe:=HHE.out.atE k hlt
       have HTK:Hid (g.ents.take (k+1)=g.ents.take k ++ [g.ents[k]]):=Lib.hid (take_snoc _ _ hlt)
       obtain ⟨aoX,capX,bX,oX,aoL,capL,bL,oL,hX,hL,hr⟩:=(HHE.out.keeps HW.out.1).ent k hlt
       obtain ⟨e,he⟩:∃ e,g.ents[k]=e:=⟨_,rfl⟩
       rw [he] at hX hL hr heok hokl HTK
       have HGr:=Lib.hid (hgk.alloc (.cells #[.string e.name,.string e.cur,.slice aoX e.chart.length capX,.slice aoL e.links.length capL,.bool e.joint] 106))
       have HXr:=Lib.hid (hX.keeps ((Keeps.refl wr).alloc (.cells #[.string e.name,.string e.cur,.slice aoX e.chart.length capX,.slice aoL e.links.length capL,.bool e.joint] 106)))
       have HLr:=Lib.hid (hL.keeps ((Keeps.refl wr).alloc (.cells #[.string e.name,.string e.cur,.slice aoX e.chart.length capX,.slice aoL e.links.length capL,.bool e.joint] 106)))
       have c0:=hr 0 _ rfl
       have c1:=hr 1 _ rfl
       have c2:=hr 2 _ rfl
       have c3:=hr 3 _ rfl
       have c4:=hr 4 _ rfl
       simp only [Nat.add_zero] at c0
       have hzr:=World.block_lt_of_cell? _ _ c0
       have hzg:=hgk.lt
       obtain ⟨s,hs⟩:∃ s,(g.ents.take k).any (fun q=>decide (q.name=e.name))=s:=⟨_,rfl⟩
       rw [hs] at hokl
       have hlk:(Instr.lookup 134 (.map (some w2.heap.size)) (.string e.name) false).run Tryz.prog (wr.alloc (.cells #[.string e.name,.string e.cur,.slice aoX e.chart.length capX,.slice aoL e.links.length capL,.bool e.joint] 106))=.ok (.bool s) (wr.alloc (.cells #[.string e.name,.string e.cur,.slice aoX e.chart.length capX,.slice aoL e.links.length capL,.bool e.joint] 106)):=by
        have:=(HW.out.2.2.alloc (.cells #[.string e.name,.string e.cur,.slice aoX e.chart.length capX,.slice aoL e.links.length capL,.bool e.joint] 106)).look Tryz.underlying134 (fun w=>Tryz.zeroValue4 w) (a:=e.name) heok.1 _ rfl
        rw [seenS_get,List.any_map] at this
        rw [← hs]
        exact this
       have HEO:=Lib.hid heok
       clear hgk hX hL hr he hs heok
       cases s with
       | true=>
        have HBD:=Lib.hid (grpB_7 hlt (hokl.trans rfl))
        clear hokl
        go_wp2_with fail
        go_ret
        rw [HBD.out]
        exact ⟨rfl,HW.out.1.alloc _⟩
       | false=>
        have HEV:Hid (Calls Tryz.prog 65 #[.agg #[.string g.cur,.int .i64 g.y,.int .i64 g.m,.int .i64 g.n,.slice aoC g.chart.length capC,.int .i64 g.rl.r0,.int .i64 g.rl.r1,.int .i64 g.rl.r2,.int .i64 g.rl.r3,.int .i64 g.rl.r4,.int .i64 g.rl.r5,.int .i64 g.rl.r6,.int .i64 g.rl.r7,.int .i64 g.rl.r8,.int .i64 g.rl.r9,.int .i64 g.rl.r10,.int .i64 g.rl.r11,.int .i64 g.rl.r12,.int .i64 g.rl.r13,.int .i64 g.rl.r14,.slice aoE g.ents.length capE],.agg #[.string e.name,.string e.cur,.slice aoX e.chart.length capX,.slice aoL e.links.length capL,.bool e.joint]] (wr.alloc (.cells #[.string e.name,.string e.cur,.slice aoX e.chart.length capX,.slice aoL e.links.length capL,.bool e.joint] 106)) fun r w'=>r=.returned (.bool (entB g e))∧Keeps (wr.alloc (.cells #[.string e.name,.string e.cur,.slice aoX e.chart.length capX,.slice aoL e.links.length capL,.bool e.joint] 106)) w'):=Lib.hid (HEN.out e HEO.out aoX capX bX oX aoL capL bL oL _ (HW.out.1.alloc _) HXr.out HLr.out)
        cases hq:entB g e with
        | false=>
         rw [hq] at HEV hokl
         have HBD:=Lib.hid (grpB_7 hlt (hokl.trans rfl))
         clear hokl hq
         go_wp2_with (first | (refine wpList_rowG 29 _ rfl rfl w.heap.size (g.cells (.slice aoC g.chart.length capC) (.slice aoE g.ents.length capE)) _ rfl (RowB.range HGr.out) Tryz.underlying29 rfl groupSize ?_) | (go_at_call 65;(refine HEV.out.mono ?_);rintro e4 w4 ⟨rfl,hk4⟩))
         go_ret
         rw [HBD.out]
         exact ⟨rfl,(HW.out.1.alloc _).trans hk4⟩
        | true=>
         rw [hq] at HEV hokl
         have HOE:Hid (okEnt g k=true):=Lib.hid (hokl.trans rfl)
         clear hokl hq
         go_wp2_with (first | (refine wpList_rowG 29 _ rfl rfl w.heap.size (g.cells (.slice aoC g.chart.length capC) (.slice aoE g.ents.length capE)) _ rfl (RowB.range HGr.out) Tryz.underlying29 rfl groupSize ?_) | (go_at_call 65;(refine HEV.out.mono ?_);rintro e4 w4 ⟨rfl,hk4⟩;have z0:=hk4.cell (p:=⟨wr.heap.size,0,none⟩) (v:=.string e.name) (by go_simp);have hz4:=World.block_lt_of_cell? _ _ z0;have HM4:=Lib.hid ((HW.out.2.2.alloc _).keeps hk4);have K4:=Lib.hid hk4;clear hk4) | (refine wpList_vstore (K:=strK) rfl _ _ _ 134 rfl Tryz.underlying134 w2.heap.size k rfl HM4.out (by unfold maxLen;omega) e.name HEO.out.1 rfl (.bool true) rfl (seenS ((g.ents.take (k+1)).map Ent.name)) (by rw [HTK.out,List.map_append];exact (seenS_snoc _ _).1) (fun d _ hd=>by rw [HTK.out,List.map_append];exact (seenS_snoc _ _).2 d hd) ?_;intro w5 hm5 hg5;have HX:Hid (Keeps w w5∧(w2.alloc (.map #[] 0)).grownBy w5 (some w2.heap.size)∧VMap strK w5 w2.heap.size (k+1) (seenS ((g.ents.take (k+1)).map Ent.name))):=Lib.hid ⟨Below.grown ((HW.out.1.alloc _).trans K4.out) hg5 ((HW.out.1.alloc _).trans K4.out).size (fun j hj=>by cases hj;exact K2.out.size),((HW.out.2.1.trans (World.grownBy_alloc _ _ _)).trans (keeps_grown K4.out _)).trans hg5,hm5⟩;clear hm5 hg5))
         go_roundw
         case rel=>exact ⟨k+1,by omega,by go_num,Lib.hid (fun j hj=>by by_cases h:j < k;(exact HN.out j h);(rw [show j=k from by omega];exact HOE.out)),HX⟩
         case measure=>simp [intOf];omega
      ·have HGE:=Lib.hid (HGD.out (fun j hj=>HN.out j (by omega)))
       go_wp2_with fail
       go_ret
       rw [HGE.out]
       exact ⟨rfl,HW.out.1⟩
end Go.Proofs.YtoaidbhiciaeaaaGreat

end
section
namespace Go.Proofs.YtoaidbhiciaeaaaGreat
structure Ivl where
 frm:Int
 to:Int
 mth:Int
deriving DecidableEq
def endsAt (x:Ivl) (d:Int):Ivl:=⟨x.frm,d,x.mth⟩
def stepI (m:Int→Int) (out:List Ivl) (d:Int):List Ivl:=match out.getLast? with
 | none=>[⟨d,84006,m d⟩]
 | some x=>if x.mth=m d then out else out.dropLast ++ [endsAt x d] ++ [⟨d,84006,m d⟩]
def ivsF (m:Int→Int) (D:List Int):List Ivl:=D.foldl (stepI m) []
theorem ivsF_snoc (m:Int→Int) (D:List Int) (d:Int):ivsF m (D ++ [d])=stepI m (ivsF m D) d:=by simp [ivsF,List.foldl_append]
theorem stepI_same {m:Int→Int} {out:List Ivl} {x:Ivl} {d:Int} (h:x.mth=m d):stepI m (out ++ [x]) d=out ++ [x]:=by
 unfold stepI;rw [List.getLast?_append];simp [h]
theorem stepI_new {m:Int→Int} {out:List Ivl} {x:Ivl} {d:Int} (h:x.mth≠m d):stepI m (out ++ [x]) d=out ++ [endsAt x d] ++ [⟨d,84006,m d⟩]:=by
 unfold stepI;rw [List.getLast?_append];simp [h]
theorem snoc_indI {α:Type} {p:List α→Prop} (h0:p []) (h1:∀ l x,p l→p (l ++ [x])):∀ l,p l:=by
 have key:∀ (n:Nat) (l:List α),l.length=n→p l:=by
  intro n
  induction n with
  | zero=>intro l hl;rw [List.eq_nil_of_length_eq_zero hl];exact h0
  | succ n ih=>
   intro l hl
   have hne:l≠[]:=by intro e;subst e;simp at hl
   rw [← List.dropLast_concat_getLast hne]
   exact h1 _ _ (ih _ (by simp [hl]))
 exact fun l=>key _ l rfl
theorem ivsF_last {m:Int→Int}:∀ {D:List Int} {z:Int},D.getLast?=some z→∃ o x,ivsF m D=o ++ [x]∧x.mth=m z:=by
 intro D
 induction D using snoc_indI with
 | h0=>intro z h;simp at h
 | h1 D d ih=>
  intro z hz
  simp at hz;subst hz
  rw [ivsF_snoc]
  by_cases hD:D=[]
  ·subst hD;exact ⟨[],⟨d,84006,m d⟩,rfl,rfl⟩
  ·obtain ⟨o,x,ho,hx⟩:=ih (List.getLast?_eq_some_getLast hD)
   rw [ho]
   by_cases hm:x.mth=m d
   ·rw [stepI_same hm];exact ⟨o,x,rfl,hm⟩
   ·rw [stepI_new hm];exact ⟨_,_,rfl,rfl⟩
end Go.Proofs.YtoaidbhiciaeaaaGreat

end
section
namespace Go.Proofs.YtoaidbhiciaeaaaGreat
open Go.RowKit
def mAt (js:List Bool) (l:List Hol) (e:Nat):Int→Int:=fun d=>mthE (f0 l d) js e
def sdays (xs:List Int):List Int:=-25567 :: xs.filter fun d=>decide (-25567 < d)
def ivR (js:List Bool) (l:List Hol) (xs:List Int) (entity:Int):List Ivl × Int:=
 if hvalidB (js.length:Int) l=false then ([],1) else if ¬ (0≤entity∧entity < (js.length:Int)) then ([],2) else if entity=0 then ([⟨-25568,84006,3⟩],0) else (ivsF (mAt js l entity.toNat) (sdays xs),0)
theorem ivR_1 {js:List Bool} {l:List Hol} {xs:List Int} {entity:Int} (h:hvalidB (js.length:Int) l=false):ivR js l xs entity=([],1):=by unfold ivR;rw [if_pos h]
theorem ivR_2 {js:List Bool} {l:List Hol} {xs:List Int} {entity:Int} (h:hvalidB (js.length:Int) l=true) (h2:¬ (0≤entity∧entity < (js.length:Int))):ivR js l xs entity=([],2):=by unfold ivR;rw [if_neg (by simp [h]),if_pos h2]
theorem ivR_3 {js:List Bool} {l:List Hol} {xs:List Int} {entity:Int} (h:hvalidB (js.length:Int) l=true) (h2:0≤entity∧entity < (js.length:Int)) (h3:entity=0):ivR js l xs entity=([⟨-25568,84006,3⟩],0):=by unfold ivR;rw [if_neg (by simp [h]),if_neg (fun h=>h h2),if_pos h3]
theorem ivR_4 {js:List Bool} {l:List Hol} {xs:List Int} {entity:Int} (h:hvalidB (js.length:Int) l=true) (h2:0≤entity∧entity < (js.length:Int)) (h3:entity≠0):ivR js l xs entity=(ivsF (mAt js l entity.toNat) (sdays xs),0):=by unfold ivR;rw [if_neg (by simp [h]),if_neg (fun h=>h h2),if_neg h3]
theorem sdays_ne (xs:List Int):sdays xs≠[]:=by simp [sdays]
theorem sdays_bd {n:Int} {l:List Hol} {xs:List Int} (h:IsDates l xs) (hv:hvalidB n l=true):∀ d∈sdays xs,dateB d=true:=by
 intro d hd
 unfold sdays at hd
 rcases List.mem_cons.1 hd with rfl | hd
 ·rfl
 ·obtain ⟨x,hx,rfl⟩:=(h.2 d).1 (List.mem_filter.1 hd).1
  exact (properB_true ((hvalidB_iff.1 hv).2.1 x hx)).2.2.2.2.2.1
def curI (out:List Ivl) (d:Int):Option Ivl:=if dateB d=true then out.find? (fun x=>decide (x.frm≤d) && decide (d < x.to)) else none
def curR (r:List Ivl × Int) (d:Int):Ivl × Int:=if r.2=0 then (match curI r.1 d with | some x=>(x,0) | none=>(⟨0,0,0⟩,2)) else (⟨0,0,0⟩,r.2)
end Go.Proofs.YtoaidbhiciaeaaaGreat

end
section
namespace Go.Proofs.YtoaidbhiciaeaaaGreat
open Go.RowKit
def OutKO (w:World) (f:Int→Option Value) (e:Ending) (w':World):Prop:=∃ v xs,e=.returned v∧w'.ownsRow w.heap.size 3 1 v xs.length (xs.map (.int .i64))∧KeysAre f xs∧Keeps w w'
theorem sortedBO_any (b n Bm:Nat) (f:Int→Option Value) (w:World) (hm:w.cell? ⟨Bm,0,none⟩=some (.map (some b))) (h:VMap intK w b n f) (hn:n≤1000000) :
  Calls Tryz.prog 47 #[.func (.func 149) #[] #[.pointer (some ⟨Bm,0,none⟩)]] w (OutKO w f):=by
 obtain ⟨D,ho,hsz,hnd,hmem⟩:=h.keys
 refine (Tryz.sortedKeys110 b n Bm D hold w hm ho (by unfold maxLen;omega) (by omega)).mono fun e w' h=>?_
 obtain ⟨v,ss,rfl,hp,hrow,_,hb⟩:=h
 refine ⟨v,_,rfl,?_,sorted_keys hnd hmem hp,hb⟩
 have hl:(ss.mergeSort (fun x y=>decide (x≤y))).length=ss.length:=List.length_mergeSort _
 rw [hl];exact hrow
theorem ownsRow_le {w:World} {base base' size n e:Nat} {v:Value} {xs:List Value} (h:w.ownsRow base e size v n xs) (hb:base'≤base):w.ownsRow base' e size v n xs:=by
 refine ⟨h.1,?_⟩
 rcases h.2 with hn | ⟨g,cap,cur,hv,hbg,rest⟩
 ·exact .inl hn
 ·exact .inr ⟨g,cap,cur,hv,Nat.le_trans hb hbg,rest⟩
def DatesOwn (w:World) (l:List Hol) (e:Ending) (w':World):Prop:=∃ v xs,e=.returned v∧w'.ownsRow w.heap.size 3 1 v xs.length (xs.map (.int .i64))∧IsDates l xs∧Keeps w w'
set_option maxRecDepth 100000 in
theorem hdatesO_any (ao:Option Addr) (l:List Hol) (cap b o:Nat) (w:World) (H:Hols w ao l cap b o) (hlen:l.length≤1000) (hok:∀ x∈l,I64 x.date) :
  Calls Tryz.prog 67 #[.slice ao l.length cap] w (DatesOwn w l):=by
 have hcap:=Sl.cap H
 have hle:=Sl.le H
 have hmm:=@run_makeMap Tryz.prog
 have HO:=Lib.hid hok
 have HH:=Lib.hid H
 clear hok H
 go_enter Tryz.func67,Tryz.ntmps67
 go_wp2_with fail
 go_loopw [9] (fun vi wr=>∃ k:Nat,k≤l.length∧vi=.int .i64 k∧Hid (Keeps w wr∧VMap intK wr w.heap.size k (seenI ((l.take k).map Hol.date)))) (fun vi _=>l.length - (intOf vi).toNat)
 case atStart=>exact ⟨0,Nat.zero_le _,rfl,Lib.hid ⟨(Keeps.refl w).alloc _,VMap.made intK w⟩⟩
 case round=>
  obtain ⟨k,hk,rfl,HW⟩:=hrel
  by_cases hlt:k < l.length
  ·have HLk:=HH.out.keeps HW.out.1
   have hix:=Sl.at HLk Tryz.underlying32 Tryz.sizeOf101 k hlt
   have c0:=HLk.cell Hol.len k hlt 0 _ rfl
   have c1:=HLk.cell Hol.len k hlt 1 _ rfl
   have c2:=HLk.cell Hol.len k hlt 2 _ rfl
   have c3:=HLk.cell Hol.len k hlt 3 _ rfl
   simp only [Nat.add_zero] at c0
   have hbl:=World.block_lt_of_cell? wr _ c0
   have HOk:=Lib.hid (HO.out _ (List.getElem_mem hlt))
   have HT:Hid ((l.take (k+1)).map Hol.date=(l.take k).map Hol.date ++ [l[k].date]):=Lib.hid (by rw [take_snoc l k hlt,List.map_append];rfl)
   clear HLk
   go_wp2_with (refine wpList_vstore (K:=intK) rfl _ _ _ 140 rfl Tryz.underlying140 w.heap.size k rfl (HW.out.2.alloc _) (by unfold maxLen;omega) l[k].date HOk.out rfl (.bool true) rfl (seenI ((l.take (k+1)).map Hol.date)) (by rw [HT.out];exact (seenI_snoc _ _).1) (fun d _ hd=>by rw [HT.out];exact (seenI_snoc _ _).2 d hd) ?_;intro w3 hm3 hg3)
   have HW3:Hid (Keeps w w3∧VMap intK w3 w.heap.size (k+1) (seenI ((l.take (k+1)).map Hol.date))):=Lib.hid ⟨Below.grown (HW.out.1.alloc _) hg3 (by have:=HW.out.1.size;simp;omega) (fun j hj=>by cases hj;omega),hm3⟩
   clear hm3 hg3 HW
   go_wp2_with fail
   go_roundw
   case rel=>exact ⟨k+1,by omega,by go_num,HW3⟩
   case measure=>simp [intOf];omega
  ·obtain rfl:k=l.length:=by omega
   go_wp2_with (first | (go_at_call 110;refine (keysB_any _ _).mono ?_;rintro e w2 ⟨rfl,rfl⟩) | (go_at_call 47;refine (sortedBO_any w.heap.size l.length _ _ _ (by go_simp) (HW.out.2.alloc _) (by omega)).mono ?_;rintro e w3 ⟨v,xs,rfl,hv,hks,hk3⟩))
   go_ret
   refine ⟨v,xs,rfl,ownsRow_le hv (by have:=HW.out.1.size;simp;omega),⟨hks.1,fun x=>?_⟩,(HW.out.1.alloc _).trans hk3⟩
   rw [hks.2,seenI_isSome,List.take_length,List.mem_map]
   constructor
   ·rintro ⟨_,h⟩;exact h
   ·rintro ⟨a,ha,rfl⟩;exact ⟨HO.out a ha,a,ha,rfl⟩
end Go.Proofs.YtoaidbhiciaeaaaGreat

end
