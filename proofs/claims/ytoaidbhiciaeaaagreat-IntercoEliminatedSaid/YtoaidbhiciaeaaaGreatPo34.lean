/- Walks and plain facts that the claim rests on (RGrV, MchR). No condition. -/
import Derived.Test.YtoaidbhiciaeaaaGreatPo33
import Derived.Test.YtoaidbhiciaeaaaGreatPo30
set_option linter.unusedSimpArgs false
set_option linter.unusedVariables false
set_option maxHeartbeats 16000000
section
namespace Go.Proofs.YtoaidbhiciaeaaaGreat
open Go.RowKit
theorem exec_load_off {P:Program} {ev:Operand→Value} {op:Oper} {w:World} (ty:TypeId) (x:Operand) (ho:op.op=.load ty x) (b o:Nat) (hx:ev x=.pointer (some ⟨b,o,none⟩)) (cs:List Value) (d:TypeDesc) (hc:w.rangeAt b o cs)
  (hu:P.underlying ty=some d) (hd:d.isRow=true) (hi:(P.info? ty).map (·.size)=some cs.length):(execOp ev op).run P w=.ok (.value (.agg cs.toArray)) w:=by
 unfold execOp
 simp only [ho,hx,Instr.loadAt,Instr.sureAddr,Sem.run_bind,Sem.run_pure,Result.andThen_ok,run_loadVar_mid w b o ty cs d hc hu hd hi]
set_option maxRecDepth 100000 in
theorem rgrp_any (g:Grp) (aoC:Option Addr) (capC bC oC:Nat) (aoE:Option Addr) (capE bE oE:Nat) (w:World) (H:Accs w aoC g.chart capC bC oC) (HE:EntsV w aoE g.ents capE bE oE) (hgo:g.Ok) :
  Calls Tryz.prog 50 #[.agg #[.string g.cur,.int .i64 g.y,.int .i64 g.m,.int .i64 g.n,.slice aoC g.chart.length capC,.int .i64 g.rl.r0,.int .i64 g.rl.r1,.int .i64 g.rl.r2,.int .i64 g.rl.r3,.int .i64 g.rl.r4,.int .i64 g.rl.r5,.int .i64 g.rl.r6,.int .i64 g.rl.r7,.int .i64 g.rl.r8,.int .i64 g.rl.r9,.int .i64 g.rl.r10,.int .i64 g.rl.r11,.int .i64 g.rl.r12,.int .i64 g.rl.r13,.int .i64 g.rl.r14,.slice aoE g.ents.length capE]] w fun r w'=>r=.returned (.bool (grpB g))∧Keeps w w':=by
 obtain ⟨ho1,ho2,ho3,ho4,ho5,ho6⟩:=hgo
 have hcapE:=HE.capE
 have hleE:=HE.leE
 have HB:Hid (∀ W,Keeps w W→Calls Tryz.prog 84 #[.agg #[.string g.cur,.int .i64 g.y,.int .i64 g.m,.int .i64 g.n,.slice aoC g.chart.length capC,.int .i64 g.rl.r0,.int .i64 g.rl.r1,.int .i64 g.rl.r2,.int .i64 g.rl.r3,.int .i64 g.rl.r4,.int .i64 g.rl.r5,.int .i64 g.rl.r6,.int .i64 g.rl.r7,.int .i64 g.rl.r8,.int .i64 g.rl.r9,.int .i64 g.rl.r10,.int .i64 g.rl.r11,.int .i64 g.rl.r12,.int .i64 g.rl.r13,.int .i64 g.rl.r14,.slice aoE g.ents.length capE]] W fun r w'=>r=.returned (.bool (booksR g))∧Keeps W w'):=Lib.hid (fun W hk=>rbooks_any g _ aoC capC bC oC W (H.keeps hk) ho1 ho2)
 have HEN0:Hid (∀ (e:Ent),e.Ok→∀ aoX capX bX oX aoL capL bL oL W,Keeps w W→Accs W aoX e.chart capX bX oX→Lnks W aoL e.links capL bL oL→Calls Tryz.prog 86 #[.agg #[.string g.cur,.int .i64 g.y,.int .i64 g.m,.int .i64 g.n,.slice aoC g.chart.length capC,.int .i64 g.rl.r0,.int .i64 g.rl.r1,.int .i64 g.rl.r2,.int .i64 g.rl.r3,.int .i64 g.rl.r4,.int .i64 g.rl.r5,.int .i64 g.rl.r6,.int .i64 g.rl.r7,.int .i64 g.rl.r8,.int .i64 g.rl.r9,.int .i64 g.rl.r10,.int .i64 g.rl.r11,.int .i64 g.rl.r12,.int .i64 g.rl.r13,.int .i64 g.rl.r14,.slice aoE g.ents.length capE],.agg #[.string e.name,.string e.cur,.slice aoX e.chart.length capX,.slice aoL e.links.length capL,.bool e.joint]] W fun r w'=>r=.returned (.bool (entR g e))∧Keeps W w'):=Lib.hid (fun e heo aoX capX bX oX aoL capL bL oL W hk hx hl=>rent_any g _ e aoC capC bC oC aoX capX bX oX aoL capL bL oL W (H.keeps hk) hx hl ho2 heo)
 have HF0:Hid (∀ nm,fnm g.ents nm < g.ents.length→∀ W,Keeps w W→Calls Tryz.prog 85 #[.agg #[.string g.cur,.int .i64 g.y,.int .i64 g.m,.int .i64 g.n,.slice aoC g.chart.length capC,.int .i64 g.rl.r0,.int .i64 g.rl.r1,.int .i64 g.rl.r2,.int .i64 g.rl.r3,.int .i64 g.rl.r4,.int .i64 g.rl.r5,.int .i64 g.rl.r6,.int .i64 g.rl.r7,.int .i64 g.rl.r8,.int .i64 g.rl.r9,.int .i64 g.rl.r10,.int .i64 g.rl.r11,.int .i64 g.rl.r12,.int .i64 g.rl.r13,.int .i64 g.rl.r14,.slice aoE g.ents.length capE],.string nm] W fun r w'=>r=.returned (.tuple #[.int .i64 (fnm g.ents nm),.bool true])∧Keeps W w'):=Lib.hid (fun nm h W hk=>rgfind_any g nm h aoC capC aoE capE bE oE W (HE.keeps hk))
 have HHE:=Lib.hid HE
 have HO5:=Lib.hid ho5
 have hrg:=box_range w (g.cells (.slice aoC g.chart.length capC) (.slice aoE g.ents.length capE)) 29
 have hk0:Keeps w (w.alloc (.cells (g.cells (.slice aoC g.chart.length capC) (.slice aoE g.ents.length capE)).toArray 29)):=(Keeps.refl w).alloc _
 obtain ⟨W1,hW1⟩:∃ W1,w.alloc (.cells (g.cells (.slice aoC g.chart.length capC) (.slice aoE g.ents.length capE)).toArray 29)=W1:=⟨_,rfl⟩
 rw [hW1] at hrg hk0
 have hW2:w.alloc (.cells #[.string g.cur,.int .i64 g.y,.int .i64 g.m,.int .i64 g.n,.slice aoC g.chart.length capC,.int .i64 g.rl.r0,.int .i64 g.rl.r1,.int .i64 g.rl.r2,.int .i64 g.rl.r3,.int .i64 g.rl.r4,.int .i64 g.rl.r5,.int .i64 g.rl.r6,.int .i64 g.rl.r7,.int .i64 g.rl.r8,.int .i64 g.rl.r9,.int .i64 g.rl.r10,.int .i64 g.rl.r11,.int .i64 g.rl.r12,.int .i64 g.rl.r13,.int .i64 g.rl.r14,.slice aoE g.ents.length capE] 29)=W1:=hW1
 have HK0:=Lib.hid hk0
 have HGG:Hid (∀ W,Keeps W1 W→W.rangeAt w.heap.size 0 (g.cells (.slice aoC g.chart.length capC) (.slice aoE g.ents.length capE))):=Lib.hid (fun W hk=>range_keeps hrg hk)
 have g20:=hrg 20 _ rfl
 simp only [Nat.zero_add] at g20
 clear H HE hrg hk0 hW1 ho1 ho2 ho3 ho4 ho5 ho6
 cases h1:booksR g with
 | false=>
  have HBD:=Lib.hid (grpB_books h1)
  rw [h1] at HB
  clear h1
  go_enter Tryz.func50,Tryz.ntmps50;go_upto_region 1 with fail;(try rw [hW2]);clear hW2
  go_wp2_with (first | (refine wpList_rowG 29 _ rfl rfl w.heap.size (g.cells (.slice aoC g.chart.length capC) (.slice aoE g.ents.length capE)) _ rfl (HGG.out _ (Keeps.refl _)) Tryz.underlying29 rfl groupSize ?_) | (go_at_call 84;(refine (HB.out _ HK0.out).mono ?_);rintro e1 w1 ⟨rfl,hk1⟩;have K1:=Lib.hid hk1;have z20:=hk1.cell g20;have hz1:=World.block_lt_of_cell? _ _ z20;skip;clear hk1))
  go_ret
  rw [HBD.out]
  exact ⟨rfl,HK0.out.trans K1.out⟩
 | true=>
 rw [h1] at HB
 obtain ⟨q1,q2,q3⟩:=booksR_all h1
 clear h1
 by_cases h4:g.ents.length < 1
 ·have HBD:=Lib.hid (grpB_4 h4)
  have e4:decide (((g.ents.length:Nat):Int) < 1)=true:=decide_eq_true (by omega)
  clear h4 q1 q2 q3
  go_enter Tryz.func50,Tryz.ntmps50;go_upto_region 1 with fail;(try rw [hW2]);clear hW2
  go_wp2_with (first | (refine wpList_rowG 29 _ rfl rfl w.heap.size (g.cells (.slice aoC g.chart.length capC) (.slice aoE g.ents.length capE)) _ rfl (HGG.out _ (Keeps.refl _)) Tryz.underlying29 rfl groupSize ?_) | (go_at_call 84;(refine (HB.out _ HK0.out).mono ?_);rintro e1 w1 ⟨rfl,hk1⟩;have K1:=Lib.hid hk1;have z20:=hk1.cell g20;have hz1:=World.block_lt_of_cell? _ _ z20;skip;clear hk1))
  go_ret
  rw [HBD.out]
  exact ⟨rfl,HK0.out.trans K1.out⟩
 by_cases h5:12 < g.ents.length
 ·have HBD:=Lib.hid (grpB_5 h5)
  have e4:decide (((g.ents.length:Nat):Int) < 1)=false:=decide_eq_false (by omega)
  have e5:decide (12 < ((g.ents.length:Nat):Int))=true:=decide_eq_true (by omega)
  clear h4 h5 q1 q2 q3
  go_enter Tryz.func50,Tryz.ntmps50;go_upto_region 1 with fail;(try rw [hW2]);clear hW2
  go_wp2_with (first | (refine wpList_rowG 29 _ rfl rfl w.heap.size (g.cells (.slice aoC g.chart.length capC) (.slice aoE g.ents.length capE)) _ rfl (HGG.out _ (Keeps.refl _)) Tryz.underlying29 rfl groupSize ?_) | (go_at_call 84;(refine (HB.out _ HK0.out).mono ?_);rintro e1 w1 ⟨rfl,hk1⟩;have K1:=Lib.hid hk1;have z20:=hk1.cell g20;have hz1:=World.block_lt_of_cell? _ _ z20;skip;clear hk1))
  go_ret
  rw [HBD.out]
  exact ⟨rfl,HK0.out.trans K1.out⟩
 have e4:decide (((g.ents.length:Nat):Int) < 1)=false:=decide_eq_false (by omega)
 have e5:decide (12 < ((g.ents.length:Nat):Int))=false:=decide_eq_false (by omega)
 have hlt0:0 < g.ents.length:=by omega
 have hj0:jointAt g 0=g.ents[0].joint:=by unfold jointAt;rw [List.getElem?_eq_getElem hlt0];rfl
 have hj:w.cell? ⟨bE,oE+4,none⟩=some (.bool g.ents[0].joint):=by
  obtain ⟨_,_,_,_,_,_,_,_,_,_,hr⟩:=HHE.out.ent 0 hlt0
  have:=hr 4 _ rfl
  simpa using this
 have hix0:=HHE.out.atE 0 hlt0
 simp only [Nat.zero_mul,Nat.add_zero,Int.natCast_zero] at hix0
 rw [← hj0] at hj
 have HJ:=Lib.hid hj
 cases h6:jointAt g 0 with
 | true=>
  have HBD:=Lib.hid (grpB_6 h6)
  rw [h6] at HJ
  clear h4 h5 h6 hj0 hj q1 q2 q3
  go_enter Tryz.func50,Tryz.ntmps50;go_upto_region 1 with fail;(try rw [hW2]);clear hW2
  go_wp2_with (first | (refine wpList_rowG 29 _ rfl rfl w.heap.size (g.cells (.slice aoC g.chart.length capC) (.slice aoE g.ents.length capE)) _ rfl (HGG.out _ (Keeps.refl _)) Tryz.underlying29 rfl groupSize ?_) | (go_at_call 84;(refine (HB.out _ HK0.out).mono ?_);rintro e1 w1 ⟨rfl,hk1⟩;have K1:=Lib.hid hk1;have z20:=hk1.cell g20;have hz1:=World.block_lt_of_cell? _ _ z20;have hjw:=(HK0.out.trans K1.out).cell HJ.out;clear hk1))
  go_ret
  rw [HBD.out]
  exact ⟨rfl,HK0.out.trans K1.out⟩
 | false=>
 have HGD:=Lib.hid (grpB_8 q1 q2 q3 (by omega) (by omega) h6)
 have HQ3:=Lib.hid q3
 have G20:=Lib.hid g20
 rw [h6] at HJ
 clear h4 h5 h6 hj0 hj q1 q2 q3
 go_enter Tryz.func50,Tryz.ntmps50;go_upto_region 1 with fail;(try rw [hW2]);clear hW2
 go_wp2_with (first | (refine wpList_rowG 29 _ rfl rfl w.heap.size (g.cells (.slice aoC g.chart.length capC) (.slice aoE g.ents.length capE)) _ rfl (HGG.out _ (Keeps.refl _)) Tryz.underlying29 rfl groupSize ?_) | (go_at_call 84;(refine (HB.out _ HK0.out).mono ?_);rintro e1 w1 ⟨rfl,hk1⟩;have K1:=Lib.hid hk1;have z20:=hk1.cell g20;have hz1:=World.block_lt_of_cell? _ _ z20;have hjw:=(HK0.out.trans K1.out).cell HJ.out;clear hk1))
 clear hjw z20 hz1 g20 hix0
 go_loopw [3] (fun vi wr=>∃ k:Nat,k≤g.ents.length∧vi=.int .i64 k∧Hid (∀ j,j < k→okEnt g j=true)∧Hid (Keeps W1 wr)) (fun vi _=>g.ents.length - (intOf vi).toNat)
 case atStart=>exact ⟨0,Nat.zero_le _,rfl,Lib.hid (fun j hj=>absurd hj (Nat.not_lt_zero _)),K1⟩
 case round=>
  obtain ⟨k,hk,rfl,HN,HWR⟩:=hrel
  by_cases hlt:k < g.ents.length
  ·have heok:=HO5.out _ (List.getElem_mem hlt)
   have hixe:=HHE.out.atE k hlt
   have hfk:=fnm_le hlt
   have hoke:=okEnt_ref HQ3.out hlt
   obtain ⟨aoX,capX,bX,oX,aoL,capL,bL,oL,hX,hL,hr⟩:=(HHE.out.keeps (HK0.out.trans HWR.out)).ent k hlt
   obtain ⟨e,he⟩:∃ e,g.ents[k]=e:=⟨_,rfl⟩
   rw [he] at hX hL hr heok hfk hoke
   obtain ⟨q,hq⟩:∃ q,fnm g.ents e.name=q:=⟨_,rfl⟩
   have c0:=hr 0 _ rfl
   simp only [Nat.add_zero] at c0
   have C0:=Lib.hid c0
   have HER:Hid (∀ W,Keeps wr W→W.rangeAt bE (oE+k * 5) [.string e.name,.string e.cur,.slice aoX e.chart.length capX,.slice aoL e.links.length capL,.bool e.joint]):=Lib.hid (fun W hW=>range_keeps hr hW)
   have HF:Hid (∀ W,Keeps wr W→Calls Tryz.prog 85 #[.agg #[.string g.cur,.int .i64 g.y,.int .i64 g.m,.int .i64 g.n,.slice aoC g.chart.length capC,.int .i64 g.rl.r0,.int .i64 g.rl.r1,.int .i64 g.rl.r2,.int .i64 g.rl.r3,.int .i64 g.rl.r4,.int .i64 g.rl.r5,.int .i64 g.rl.r6,.int .i64 g.rl.r7,.int .i64 g.rl.r8,.int .i64 g.rl.r9,.int .i64 g.rl.r10,.int .i64 g.rl.r11,.int .i64 g.rl.r12,.int .i64 g.rl.r13,.int .i64 g.rl.r14,.slice aoE g.ents.length capE],.string e.name] W fun r w'=>r=.returned (.tuple #[.int .i64 (q:Int),.bool true])∧Keeps W w'):=Lib.hid (fun W hW=>by
    have:=HF0.out e.name (Nat.lt_of_le_of_lt hfk hlt) W (HK0.out.trans (HWR.out.trans hW))
    rw [hq] at this
    exact this)
   obtain ⟨eb,heb⟩:∃ eb,entR g e=eb:=⟨_,rfl⟩
   have HEN:Hid (∀ W,Keeps wr W→Calls Tryz.prog 86 #[.agg #[.string g.cur,.int .i64 g.y,.int .i64 g.m,.int .i64 g.n,.slice aoC g.chart.length capC,.int .i64 g.rl.r0,.int .i64 g.rl.r1,.int .i64 g.rl.r2,.int .i64 g.rl.r3,.int .i64 g.rl.r4,.int .i64 g.rl.r5,.int .i64 g.rl.r6,.int .i64 g.rl.r7,.int .i64 g.rl.r8,.int .i64 g.rl.r9,.int .i64 g.rl.r10,.int .i64 g.rl.r11,.int .i64 g.rl.r12,.int .i64 g.rl.r13,.int .i64 g.rl.r14,.slice aoE g.ents.length capE],.agg #[.string e.name,.string e.cur,.slice aoX e.chart.length capX,.slice aoL e.links.length capL,.bool e.joint]] W fun r w'=>r=.returned (.bool eb)∧Keeps W w'):=Lib.hid (fun W hW=>by
    have:=HEN0.out e heok aoX capX bX oX aoL capL bL oL W (HK0.out.trans (HWR.out.trans hW)) (hX.keeps hW) (hL.keeps hW)
    rw [heb] at this
    exact this)
   rw [hq,heb] at hoke
   have HOK:=Lib.hid hoke
   clear hX hL hr heok hfk hoke he hq heb c0
   have z20:=HWR.out.cell G20.out
   have hzr:=World.block_lt_of_cell? _ _ z20
   go_upto_region 6 with fail
   clear z20 hzr
   refine wp_region_steps (A:=?_) Keeps [some 36,some 37,some 38,some 39,some 40,some 41,some 42,some 43,some 35,some 44,some 45,some 4,some 5] [[],[],[1],[],[2,3],[4],[5],[0,6],[7],[8],[8],[9],[10]] 13 (by kernel_rfl) (by kernel_rfl) (by kernel_rfl) (by kernel_rfl) (by kernel_rfl) (by kernel_rfl) Keeps.refl (fun _ _ _=>Keeps.trans) ?_ ?_
   rotate_left
   ·intro f;simp only [putL,Act.put,List.setIfInBounds_toArray,List.set_cons_zero,List.set_cons_succ,Nat.zero_add,Nat.reduceAdd];exact rfl
   refine Steps.pure (v:=g.cells (.slice aoC g.chart.length capC) (.slice aoE g.ents.length capE) |> List.toArray |> .agg) Keeps.refl rfl (fun f w' hR hV=>⟨?_,?_⟩) ?_
   ·(rfl)
   ·(clear hV;have hkw:=(Keeps.refl wr).drew.trans hR;have z20:=(HWR.out.trans hkw).cell G20.out;have d0:=hkw.cell C0.out;exact exec_load_mid 29 (.tmp 1) rfl w.heap.size rfl (g.cells (.slice aoC g.chart.length capC) (.slice aoE g.ents.length capE)) _ (HGG.out _ (HWR.out.trans hkw)) Tryz.underlying29 rfl groupSize)
   iterate 6 (refine Steps.pure (v:=?_) Keeps.refl rfl (fun f w' hR hV=>⟨?_,?_⟩) ?_;rotate_left;(focus rfl);(focus ((repeat (obtain ⟨hq,hV⟩:=hV;(try replace hq:_=_:=hq)));have hkw:=(Keeps.refl wr).drew.trans hR;have z20:=(HWR.out.trans hkw).cell G20.out;have d0:=hkw.cell C0.out;go_simp;all_goals (try with_reducible rfl))))
   refine Steps.call (fun _ v=>v=.tuple #[.int .i64 (q:Int),.bool true]) rfl (fun _ _ _ _ h=>h) (fun f w' hR hV=>⟨?_,?_⟩) ?_
   ·(rfl)
   ·(obtain ⟨h0,h6,_⟩:=hV;replace h0:f 0=_:=h0;replace h6:f 6=_:=h6;have hkw:=(Keeps.refl wr).drew.trans hR;have z20:=(HWR.out.trans hkw).cell G20.out;have d0:=hkw.cell C0.out;go_simp;go_at_call 85;refine (HF.out _ hkw).mono ?_;rintro e w2 ⟨rfl,hk2⟩;exact StepPost.of _ rfl rfl hk2)
   iterate 5 (refine Steps.pure (v:=?_) Keeps.refl rfl (fun f w' hR hV=>⟨?_,?_⟩) ?_;rotate_left;(focus rfl);(focus ((repeat (obtain ⟨hq,hV⟩:=hV;(try replace hq:_=_:=hq)));have hkw:=(Keeps.refl wr).drew.trans hR;have z20:=(HWR.out.trans hkw).cell G20.out;have d0:=hkw.cell C0.out;go_simp;all_goals (try with_reducible rfl))))
   all_goals (refine Steps.done [11,12] (by kernel_rfl) rfl (fun f wz hR hV=>?_);obtain ⟨h11,h12,_⟩:=hV;replace h11:f 11=_:=h11;replace h12:f 12=_:=h12;simp only [h11];simp only [h12])
   have HKZ:=Lib.hid ((Keeps.refl wr).drew.trans hR)
   clear hR h11 h12
   by_cases hqk:q=k
   ·have e1:((q:Int) != (k:Int))=false:=by simp [bne,hqk]
    cases eb with
    | false=>
     have HBD:=Lib.hid (grpB_7 hlt (HOK.out.trans (by simp)))
     clear hqk
     go_upto_region 7 with fail
     refine wp_region_steps (A:=?_) Keeps [some 46,some 47,some 48,some 49,some 50,some 51,some 52,some 53,some 54,some 55,some 56,some 57,some 58] [[],[],[0,1],[2],[3],[3],[3,5],[3],[3,6,7],[3,8],[3,4,9],[3,10],[3,11]] 13 (by kernel_rfl) (by kernel_rfl) (by kernel_rfl) (by kernel_rfl) (by kernel_rfl) (by kernel_rfl) Keeps.refl (fun _ _ _=>Keeps.trans) ?_ ?_
     rotate_left
     ·intro f;simp only [putL,Act.put,List.setIfInBounds_toArray,List.set_cons_zero,List.set_cons_succ,Nat.zero_add,Nat.reduceAdd];exact rfl
     iterate 4 (refine Steps.pure (v:=?_) Keeps.refl rfl (fun f w' hR hV=>⟨?_,?_⟩) ?_;rotate_left;(focus rfl);(focus ((repeat (obtain ⟨hq,hV⟩:=hV;(try replace hq:_=_:=hq)));have hkw:=HKZ.out.trans ((Keeps.refl wz).drew.trans hR);have z20:=(HWR.out.trans hkw).cell G20.out;go_simp;all_goals (try with_reducible rfl))))
     all_goals first
      | (refine Steps.pure (v:=g.cells (.slice aoC g.chart.length capC) (.slice aoE g.ents.length capE) |> List.toArray |> .agg) Keeps.refl rfl (fun f w' hR hV=>⟨?_,?_⟩) ?_;(focus (obtain ⟨h3,_⟩:=hV;replace h3:f 3=_:=h3;exact want_yes (t:=49) rfl (by kernel_rfl) rfl h3));(focus (obtain ⟨h3,_⟩:=hV;replace h3:f 3=_:=h3;have hkw:=HKZ.out.trans ((Keeps.refl wz).drew.trans hR);have z20:=(HWR.out.trans hkw).cell G20.out;exact exec_load_mid 29 (.tmp 1) rfl w.heap.size rfl (g.cells (.slice aoC g.chart.length capC) (.slice aoE g.ents.length capE)) _ (HGG.out _ (HWR.out.trans hkw)) Tryz.underlying29 rfl groupSize)))
      | (refine Steps.skip rfl (fun f w' hR hV=>?_) ?_;(focus (obtain ⟨h3,_⟩:=hV;replace h3:f 3=_:=h3;first | exact want_no (t:=49) rfl (by kernel_rfl) rfl h3 rfl | exact want_undef (t:=49) rfl (by kernel_rfl) rfl h3)))
     iterate 4 (all_goals first
      | (refine Steps.pure (v:=?_) Keeps.refl rfl (fun f w' hR hV=>⟨?_,?_⟩) ?_;rotate_left;(focus ((repeat (obtain ⟨hq,hV⟩:=hV;(try replace hq:_=_:=hq)));exact want_yes rfl rfl rfl (by assumption)));(focus ((repeat (obtain ⟨hq,hV⟩:=hV;(try replace hq:_=_:=hq)));have hkw:=HKZ.out.trans ((Keeps.refl wz).drew.trans hR);have z20:=(HWR.out.trans hkw).cell G20.out;go_simp;all_goals (try with_reducible rfl))))
      | (refine Steps.skip rfl (fun f w' hR hV=>?_) ?_;(focus ((repeat (obtain ⟨hq,hV⟩:=hV;(try replace hq:_=_:=hq)));first | exact want_no rfl rfl rfl (by assumption) rfl | exact want_undef rfl rfl rfl (by assumption)))))
     all_goals first
      | (refine Steps.pure (v:=.agg #[.string e.name,.string e.cur,.slice aoX e.chart.length capX,.slice aoL e.links.length capL,.bool e.joint]) Keeps.refl rfl (fun f w' hR hV=>⟨?_,?_⟩) ?_;(focus (obtain ⟨h3,_,_⟩:=hV;replace h3:f 3=_:=h3;exact want_yes (t:=49) rfl (by kernel_rfl) rfl h3));(focus (obtain ⟨h3,h8,_⟩:=hV;replace h3:f 3=_:=h3;replace h8:f 8=_:=h8;have hkw:=HKZ.out.trans ((Keeps.refl wz).drew.trans hR);have z20:=(HWR.out.trans hkw).cell G20.out;exact exec_load_off 106 (.tmp 54) rfl bE (oE+k * 5) h8 [.string e.name,.string e.cur,.slice aoX e.chart.length capX,.slice aoL e.links.length capL,.bool e.joint] _ (HER.out _ hkw) Tryz.underlying106 rfl entSize)))
      | (refine Steps.skip rfl (fun f w' hR hV=>?_) ?_;(focus (obtain ⟨h3,_,_⟩:=hV;replace h3:f 3=_:=h3;first | exact want_no (t:=49) rfl (by kernel_rfl) rfl h3 rfl | exact want_undef (t:=49) rfl (by kernel_rfl) rfl h3)))
     all_goals first
      | (refine Steps.call (fun _ v=>v=.bool false) rfl (fun _ _ _ _ h=>h) (fun f w' hR hV=>⟨?_,?_⟩) ?_;(focus (obtain ⟨h3,_,_,_⟩:=hV;replace h3:f 3=_:=h3;exact want_yes (t:=49) rfl (by kernel_rfl) rfl h3));(focus (obtain ⟨h3,h4,h9,_⟩:=hV;replace h3:f 3=_:=h3;replace h4:f 4=_:=h4;replace h9:f 9=_:=h9;have hkw:=HKZ.out.trans ((Keeps.refl wz).drew.trans hR);have z20:=(HWR.out.trans hkw).cell G20.out;go_simp;go_at_call 86;refine (HEN.out _ hkw).mono ?_;rintro e w2 ⟨rfl,hk2⟩;exact StepPost.of _ rfl rfl hk2)))
      | (refine Steps.skip rfl (fun f w' hR hV=>?_) ?_;(focus (obtain ⟨h3,_,_,_⟩:=hV;replace h3:f 3=_:=h3;first | exact want_no (t:=49) rfl (by kernel_rfl) rfl h3 rfl | exact want_undef (t:=49) rfl (by kernel_rfl) rfl h3)))
     iterate 2 (all_goals first
      | (refine Steps.pure (v:=?_) Keeps.refl rfl (fun f w' hR hV=>⟨?_,?_⟩) ?_;rotate_left;(focus ((repeat (obtain ⟨hq,hV⟩:=hV;(try replace hq:_=_:=hq)));first | exact want_yes rfl rfl rfl (by assumption) | rfl));(focus ((repeat (obtain ⟨hq,hV⟩:=hV;(try replace hq:_=_:=hq)));have hkw:=HKZ.out.trans ((Keeps.refl wz).drew.trans hR);have z20:=(HWR.out.trans hkw).cell G20.out;go_simp;all_goals (try with_reducible rfl))))
      | (refine Steps.skip rfl (fun f w' hR hV=>?_) ?_;(focus ((repeat (obtain ⟨hq,hV⟩:=hV;(try replace hq:_=_:=hq)));first | exact want_no rfl rfl rfl (by assumption) rfl | exact want_undef rfl rfl rfl (by assumption)))))
     all_goals (refine Steps.done [12] (by kernel_rfl) rfl (fun f wq hR hV=>?_);obtain ⟨h12,_⟩:=hV;replace h12:f 12=_:=h12;simp only [h12])
     go_wp2_with fail
     go_ret
     rw [HBD.out]
     exact ⟨rfl,HK0.out.trans (HWR.out.trans (HKZ.out.trans ((Keeps.refl wz).drew.trans hR)))⟩
    | true=>
     have HOE:Hid (okEnt g k=true):=Lib.hid (HOK.out.trans (by simp [hqk]))
     clear hqk
     go_upto_region 7 with fail
     refine wp_region_steps (A:=?_) Keeps [some 46,some 47,some 48,some 49,some 50,some 51,some 52,some 53,some 54,some 55,some 56,some 57,some 58] [[],[],[0,1],[2],[3],[3],[3,5],[3],[3,6,7],[3,8],[3,4,9],[3,10],[3,11]] 13 (by kernel_rfl) (by kernel_rfl) (by kernel_rfl) (by kernel_rfl) (by kernel_rfl) (by kernel_rfl) Keeps.refl (fun _ _ _=>Keeps.trans) ?_ ?_
     rotate_left
     ·intro f;simp only [putL,Act.put,List.setIfInBounds_toArray,List.set_cons_zero,List.set_cons_succ,Nat.zero_add,Nat.reduceAdd];exact rfl
     iterate 4 (refine Steps.pure (v:=?_) Keeps.refl rfl (fun f w' hR hV=>⟨?_,?_⟩) ?_;rotate_left;(focus rfl);(focus ((repeat (obtain ⟨hq,hV⟩:=hV;(try replace hq:_=_:=hq)));have hkw:=HKZ.out.trans ((Keeps.refl wz).drew.trans hR);have z20:=(HWR.out.trans hkw).cell G20.out;go_simp;all_goals (try with_reducible rfl))))
     all_goals first
      | (refine Steps.pure (v:=g.cells (.slice aoC g.chart.length capC) (.slice aoE g.ents.length capE) |> List.toArray |> .agg) Keeps.refl rfl (fun f w' hR hV=>⟨?_,?_⟩) ?_;(focus (obtain ⟨h3,_⟩:=hV;replace h3:f 3=_:=h3;exact want_yes (t:=49) rfl (by kernel_rfl) rfl h3));(focus (obtain ⟨h3,_⟩:=hV;replace h3:f 3=_:=h3;have hkw:=HKZ.out.trans ((Keeps.refl wz).drew.trans hR);have z20:=(HWR.out.trans hkw).cell G20.out;exact exec_load_mid 29 (.tmp 1) rfl w.heap.size rfl (g.cells (.slice aoC g.chart.length capC) (.slice aoE g.ents.length capE)) _ (HGG.out _ (HWR.out.trans hkw)) Tryz.underlying29 rfl groupSize)))
      | (refine Steps.skip rfl (fun f w' hR hV=>?_) ?_;(focus (obtain ⟨h3,_⟩:=hV;replace h3:f 3=_:=h3;first | exact want_no (t:=49) rfl (by kernel_rfl) rfl h3 rfl | exact want_undef (t:=49) rfl (by kernel_rfl) rfl h3)))
     iterate 4 (all_goals first
      | (refine Steps.pure (v:=?_) Keeps.refl rfl (fun f w' hR hV=>⟨?_,?_⟩) ?_;rotate_left;(focus ((repeat (obtain ⟨hq,hV⟩:=hV;(try replace hq:_=_:=hq)));exact want_yes rfl rfl rfl (by assumption)));(focus ((repeat (obtain ⟨hq,hV⟩:=hV;(try replace hq:_=_:=hq)));have hkw:=HKZ.out.trans ((Keeps.refl wz).drew.trans hR);have z20:=(HWR.out.trans hkw).cell G20.out;go_simp;all_goals (try with_reducible rfl))))
      | (refine Steps.skip rfl (fun f w' hR hV=>?_) ?_;(focus ((repeat (obtain ⟨hq,hV⟩:=hV;(try replace hq:_=_:=hq)));first | exact want_no rfl rfl rfl (by assumption) rfl | exact want_undef rfl rfl rfl (by assumption)))))
     all_goals first
      | (refine Steps.pure (v:=.agg #[.string e.name,.string e.cur,.slice aoX e.chart.length capX,.slice aoL e.links.length capL,.bool e.joint]) Keeps.refl rfl (fun f w' hR hV=>⟨?_,?_⟩) ?_;(focus (obtain ⟨h3,_,_⟩:=hV;replace h3:f 3=_:=h3;exact want_yes (t:=49) rfl (by kernel_rfl) rfl h3));(focus (obtain ⟨h3,h8,_⟩:=hV;replace h3:f 3=_:=h3;replace h8:f 8=_:=h8;have hkw:=HKZ.out.trans ((Keeps.refl wz).drew.trans hR);have z20:=(HWR.out.trans hkw).cell G20.out;exact exec_load_off 106 (.tmp 54) rfl bE (oE+k * 5) h8 [.string e.name,.string e.cur,.slice aoX e.chart.length capX,.slice aoL e.links.length capL,.bool e.joint] _ (HER.out _ hkw) Tryz.underlying106 rfl entSize)))
      | (refine Steps.skip rfl (fun f w' hR hV=>?_) ?_;(focus (obtain ⟨h3,_,_⟩:=hV;replace h3:f 3=_:=h3;first | exact want_no (t:=49) rfl (by kernel_rfl) rfl h3 rfl | exact want_undef (t:=49) rfl (by kernel_rfl) rfl h3)))
     all_goals first
      | (refine Steps.call (fun _ v=>v=.bool true) rfl (fun _ _ _ _ h=>h) (fun f w' hR hV=>⟨?_,?_⟩) ?_;(focus (obtain ⟨h3,_,_,_⟩:=hV;replace h3:f 3=_:=h3;exact want_yes (t:=49) rfl (by kernel_rfl) rfl h3));(focus (obtain ⟨h3,h4,h9,_⟩:=hV;replace h3:f 3=_:=h3;replace h4:f 4=_:=h4;replace h9:f 9=_:=h9;have hkw:=HKZ.out.trans ((Keeps.refl wz).drew.trans hR);have z20:=(HWR.out.trans hkw).cell G20.out;go_simp;go_at_call 86;refine (HEN.out _ hkw).mono ?_;rintro e w2 ⟨rfl,hk2⟩;exact StepPost.of _ rfl rfl hk2)))
      | (refine Steps.skip rfl (fun f w' hR hV=>?_) ?_;(focus (obtain ⟨h3,_,_,_⟩:=hV;replace h3:f 3=_:=h3;first | exact want_no (t:=49) rfl (by kernel_rfl) rfl h3 rfl | exact want_undef (t:=49) rfl (by kernel_rfl) rfl h3)))
     iterate 2 (all_goals first
      | (refine Steps.pure (v:=?_) Keeps.refl rfl (fun f w' hR hV=>⟨?_,?_⟩) ?_;rotate_left;(focus ((repeat (obtain ⟨hq,hV⟩:=hV;(try replace hq:_=_:=hq)));first | exact want_yes rfl rfl rfl (by assumption) | rfl));(focus ((repeat (obtain ⟨hq,hV⟩:=hV;(try replace hq:_=_:=hq)));have hkw:=HKZ.out.trans ((Keeps.refl wz).drew.trans hR);have z20:=(HWR.out.trans hkw).cell G20.out;go_simp;all_goals (try with_reducible rfl))))
      | (refine Steps.skip rfl (fun f w' hR hV=>?_) ?_;(focus ((repeat (obtain ⟨hq,hV⟩:=hV;(try replace hq:_=_:=hq)));first | exact want_no rfl rfl rfl (by assumption) rfl | exact want_undef rfl rfl rfl (by assumption)))))
     all_goals (refine Steps.done [12] (by kernel_rfl) rfl (fun f wq hR hV=>?_);obtain ⟨h12,_⟩:=hV;replace h12:f 12=_:=h12;simp only [h12])
     have HVQ:=Lib.hid (HWR.out.trans (HKZ.out.trans ((Keeps.refl wz).drew.trans hR)))
     clear hR
     go_wp2_with fail
     go_roundw
     case rel=>exact ⟨k+1,by omega,by go_num,Lib.hid (fun j hj=>by by_cases h:j < k;(exact HN.out j h);(rw [show j=k from by omega];exact HOE.out)),HVQ⟩
     case measure=>simp [intOf];omega
   ·have e1:((q:Int) != (k:Int))=true:=by simp [bne];omega
    have HBD:=Lib.hid (grpB_7 hlt (HOK.out.trans (by simp [hqk])))
    clear hqk
    go_upto_region 7 with fail
    refine wp_region_steps (A:=?_) Keeps [some 46,some 47,some 48,some 49,some 50,some 51,some 52,some 53,some 54,some 55,some 56,some 57,some 58] [[],[],[0,1],[2],[3],[3],[3,5],[3],[3,6,7],[3,8],[3,4,9],[3,10],[3,11]] 13 (by kernel_rfl) (by kernel_rfl) (by kernel_rfl) (by kernel_rfl) (by kernel_rfl) (by kernel_rfl) Keeps.refl (fun _ _ _=>Keeps.trans) ?_ ?_
    rotate_left
    ·intro f;simp only [putL,Act.put,List.setIfInBounds_toArray,List.set_cons_zero,List.set_cons_succ,Nat.zero_add,Nat.reduceAdd];exact rfl
    iterate 4 (refine Steps.pure (v:=?_) Keeps.refl rfl (fun f w' hR hV=>⟨?_,?_⟩) ?_;rotate_left;(focus rfl);(focus ((repeat (obtain ⟨hq,hV⟩:=hV;(try replace hq:_=_:=hq)));have hkw:=HKZ.out.trans ((Keeps.refl wz).drew.trans hR);have z20:=(HWR.out.trans hkw).cell G20.out;go_simp;all_goals (try with_reducible rfl))))
    all_goals first
     | (refine Steps.pure (v:=g.cells (.slice aoC g.chart.length capC) (.slice aoE g.ents.length capE) |> List.toArray |> .agg) Keeps.refl rfl (fun f w' hR hV=>⟨?_,?_⟩) ?_;(focus (obtain ⟨h3,_⟩:=hV;replace h3:f 3=_:=h3;exact want_yes (t:=49) rfl (by kernel_rfl) rfl h3));(focus (obtain ⟨h3,_⟩:=hV;replace h3:f 3=_:=h3;have hkw:=HKZ.out.trans ((Keeps.refl wz).drew.trans hR);have z20:=(HWR.out.trans hkw).cell G20.out;exact exec_load_mid 29 (.tmp 1) rfl w.heap.size rfl (g.cells (.slice aoC g.chart.length capC) (.slice aoE g.ents.length capE)) _ (HGG.out _ (HWR.out.trans hkw)) Tryz.underlying29 rfl groupSize)))
     | (refine Steps.skip rfl (fun f w' hR hV=>?_) ?_;(focus (obtain ⟨h3,_⟩:=hV;replace h3:f 3=_:=h3;first | exact want_no (t:=49) rfl (by kernel_rfl) rfl h3 rfl | exact want_undef (t:=49) rfl (by kernel_rfl) rfl h3)))
    iterate 4 (all_goals first
     | (refine Steps.pure (v:=?_) Keeps.refl rfl (fun f w' hR hV=>⟨?_,?_⟩) ?_;rotate_left;(focus ((repeat (obtain ⟨hq,hV⟩:=hV;(try replace hq:_=_:=hq)));exact want_yes rfl rfl rfl (by assumption)));(focus ((repeat (obtain ⟨hq,hV⟩:=hV;(try replace hq:_=_:=hq)));have hkw:=HKZ.out.trans ((Keeps.refl wz).drew.trans hR);have z20:=(HWR.out.trans hkw).cell G20.out;go_simp;all_goals (try with_reducible rfl))))
     | (refine Steps.skip rfl (fun f w' hR hV=>?_) ?_;(focus ((repeat (obtain ⟨hq,hV⟩:=hV;(try replace hq:_=_:=hq)));first | exact want_no rfl rfl rfl (by assumption) rfl | exact want_undef rfl rfl rfl (by assumption)))))
    all_goals first
     | (refine Steps.pure (v:=.agg #[.string e.name,.string e.cur,.slice aoX e.chart.length capX,.slice aoL e.links.length capL,.bool e.joint]) Keeps.refl rfl (fun f w' hR hV=>⟨?_,?_⟩) ?_;(focus (obtain ⟨h3,_,_⟩:=hV;replace h3:f 3=_:=h3;exact want_yes (t:=49) rfl (by kernel_rfl) rfl h3));(focus (obtain ⟨h3,h8,_⟩:=hV;replace h3:f 3=_:=h3;replace h8:f 8=_:=h8;have hkw:=HKZ.out.trans ((Keeps.refl wz).drew.trans hR);have z20:=(HWR.out.trans hkw).cell G20.out;exact exec_load_off 106 (.tmp 54) rfl bE (oE+k * 5) h8 [.string e.name,.string e.cur,.slice aoX e.chart.length capX,.slice aoL e.links.length capL,.bool e.joint] _ (HER.out _ hkw) Tryz.underlying106 rfl entSize)))
     | (refine Steps.skip rfl (fun f w' hR hV=>?_) ?_;(focus (obtain ⟨h3,_,_⟩:=hV;replace h3:f 3=_:=h3;first | exact want_no (t:=49) rfl (by kernel_rfl) rfl h3 rfl | exact want_undef (t:=49) rfl (by kernel_rfl) rfl h3)))
    all_goals first
     | (refine Steps.call (fun _ v=>v=.bool eb) rfl (fun _ _ _ _ h=>h) (fun f w' hR hV=>⟨?_,?_⟩) ?_;(focus (obtain ⟨h3,_,_,_⟩:=hV;replace h3:f 3=_:=h3;exact want_yes (t:=49) rfl (by kernel_rfl) rfl h3));(focus (obtain ⟨h3,h4,h9,_⟩:=hV;replace h3:f 3=_:=h3;replace h4:f 4=_:=h4;replace h9:f 9=_:=h9;have hkw:=HKZ.out.trans ((Keeps.refl wz).drew.trans hR);have z20:=(HWR.out.trans hkw).cell G20.out;go_simp;go_at_call 86;refine (HEN.out _ hkw).mono ?_;rintro e w2 ⟨rfl,hk2⟩;exact StepPost.of _ rfl rfl hk2)))
     | (refine Steps.skip rfl (fun f w' hR hV=>?_) ?_;(focus (obtain ⟨h3,_,_,_⟩:=hV;replace h3:f 3=_:=h3;first | exact want_no (t:=49) rfl (by kernel_rfl) rfl h3 rfl | exact want_undef (t:=49) rfl (by kernel_rfl) rfl h3)))
    iterate 2 (all_goals first
     | (refine Steps.pure (v:=?_) Keeps.refl rfl (fun f w' hR hV=>⟨?_,?_⟩) ?_;rotate_left;(focus ((repeat (obtain ⟨hq,hV⟩:=hV;(try replace hq:_=_:=hq)));first | exact want_yes rfl rfl rfl (by assumption) | rfl));(focus ((repeat (obtain ⟨hq,hV⟩:=hV;(try replace hq:_=_:=hq)));have hkw:=HKZ.out.trans ((Keeps.refl wz).drew.trans hR);have z20:=(HWR.out.trans hkw).cell G20.out;go_simp;all_goals (try with_reducible rfl))))
     | (refine Steps.skip rfl (fun f w' hR hV=>?_) ?_;(focus ((repeat (obtain ⟨hq,hV⟩:=hV;(try replace hq:_=_:=hq)));first | exact want_no rfl rfl rfl (by assumption) rfl | exact want_undef rfl rfl rfl (by assumption)))))
    all_goals (refine Steps.done [12] (by kernel_rfl) rfl (fun f wq hR hV=>?_);obtain ⟨h12,_⟩:=hV;replace h12:f 12=_:=h12;simp only [h12])
    go_wp2_with fail
    go_ret
    rw [HBD.out]
    exact ⟨rfl,HK0.out.trans (HWR.out.trans (HKZ.out.trans ((Keeps.refl wz).drew.trans hR)))⟩
  ·have HGE:=Lib.hid (HGD.out (fun j hj=>HN.out j (by omega)))
   have z20:=HWR.out.cell G20.out
   go_wp2_with fail
   go_ret
   rw [HGE.out]
   exact ⟨rfl,HK0.out.trans HWR.out⟩
end Go.Proofs.YtoaidbhiciaeaaaGreat

end
section
namespace Go.Proofs.YtoaidbhiciaeaaaGreat
open Go.RowKit
def sideR (es:List JV) (L:List Rf):Int × Int × Bool:=if L.Nodup then entP es L else (0,0,false)
theorem sideR_bad1 {es:List JV} {L:List Rf} (h:sideE es L=none):sideR es L=(0,0,false):=by unfold sideR;split;exact entP_bad h;rfl
theorem sideR_bad2 {es:List JV} {L:List Rf} {k:Nat} (hk:k < L.length) (h:L[k]∈L.take k):sideR es L=(0,0,false):=if_neg (nodup_take_bad hk h)
theorem sideR_good {es:List JV} {L:List Rf} {x:Int × Int} (h:sideE es L=some x) (hn:L.Nodup):sideR es L=(x.1,x.2,decide (1≤L.length∧L.length≤12)):=by unfold sideR;rw [if_pos hn,entP_good h]
theorem entP_ep {es:List JV} {L:List Rf} (h:(entP es L).2.2=true):∀ r∈L,∃ p,ep es r=some ((entP es L).1,p):=by
 intro r hr
 cases hs:sideE es L with
 | none=>rw [entP_bad hs] at h;cases h
 | some x=>
  rw [entP_good hs]
  cases L with
  | nil=>exact absurd hr List.not_mem_nil
  | cons q t=>
   rw [sideE_cons] at hs
   split at hs
   ·rename_i ha
    rw [List.all_eq_true] at ha
    have:=ha r hr
    rw [decide_eq_true_eq] at this
    exact ⟨x.2,by rw [this,hs]⟩
   ·cases hs
def pairR (es:List JV) (m:Mt):Bool:=(sideR es m.left).2.2 && ((sideR es m.right).2.2 && ((sideR es m.left).1 != (sideR es m.right).1 && ((sideR es m.left).2.1 == (sideR es m.right).1 && ((sideR es m.right).2.1 == (sideR es m.left).1 && (decide (1≤m.state) && decide (m.state≤5))))))
theorem sidesR_ref (es:List JV) (m:Mt):sidesR es m=if pairR es m=true then ((sideR es m.left).1,(sideR es m.right).1,0) else (0,0,1):=by
 by_cases h1:m.left.Nodup
 ·by_cases h2:m.right.Nodup
  ·have e1:sideR es m.left=entP es m.left:=if_pos h1
   have e2:sideR es m.right=entP es m.right:=if_pos h2
   have e3:pairR es m=pairOk es m:=by unfold pairR pairOk;rw [e1,e2]
   rw [e3,e1,e2]
   by_cases hp:pairOk es m=true
   ·rw [if_pos hp]
    refine sidesR_good hp (List.nodup_append.2 ⟨h1,h2,fun a ha b hb hab=>?_⟩)
    subst hab
    unfold pairOk at hp
    simp only [Bool.and_eq_true] at hp
    obtain ⟨q1,q2,q3,_⟩:=hp
    obtain ⟨p1,hp1⟩:=entP_ep q1 a ha
    obtain ⟨p2,hp2⟩:=entP_ep q2 a hb
    rw [hp1] at hp2
    have:=congrArg Prod.fst (Option.some.inj hp2)
    simp only at this
    rw [this] at q3
    simp at q3
   ·rw [if_neg hp]
    exact sidesR_bad1 (by simpa using hp)
  ·have e2:(sideR es m.right).2.2=false:=by unfold sideR;rw [if_neg h2]
   have e3:pairR es m=false:=by unfold pairR;rw [e2];simp
   rw [e3,if_neg (by simp)]
   exact sidesR_bad2 fun h=>h2 (List.nodup_append.1 h).2.1
 ·have e1:(sideR es m.left).2.2=false:=by unfold sideR;rw [if_neg h1]
  have e3:pairR es m=false:=by unfold pairR;rw [e1];simp
  rw [e3,if_neg (by simp)]
  exact sidesR_bad2 fun h=>h1 (List.nodup_append.1 h).1
end Go.Proofs.YtoaidbhiciaeaaaGreat

end
