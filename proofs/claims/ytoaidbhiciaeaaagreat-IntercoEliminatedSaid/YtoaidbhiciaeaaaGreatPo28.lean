/- Walks and plain facts that the claim rests on (PFindR, InW, MchP). No condition. -/
import Derived.Test.YtoaidbhiciaeaaaGreatPo27
import Derived.Test.YtoaidbhiciaeaaaGreatPo26
import Derived.Test.YtoaidbhiciaeaaaGreatPo09
import Derived.Deep.QuietTactic
import Derived.BigQuiet
set_option linter.unusedSimpArgs false
set_option linter.unusedVariables false
set_option maxHeartbeats 16000000
section
namespace Go.Proofs.YtoaidbhiciaeaaaGreat
open Go.RowKit
set_option maxRecDepth 100000 in
theorem rpfind_any (bv:List Value) (es:List JV) (ms:List MV) (re rl:Int) (k0:Nat) (hF:FstE es re k0) (w:World) (H:Bks w bv es ms) (hm:∀ e∈es,e.x.lines.length≤8) :
  Calls Tryz.prog 92 #[.agg bv.toArray,.agg #[.int .i64 re,.int .i64 rl]] w (FindOut w (findS es k0 rl).1 (findS es k0 rl).2.1 (findS es k0 rl).2.2):=by
 obtain ⟨ao1,cap1,b1,o1,he1,hj⟩:=H.ents
 have HJ:=Lib.hid hj
 have HM:=Lib.hid hm
 have h1:=Sl.le hj.row
 have h2:=Sl.cap hj.row
 have hrg:=box_range w bv 36
 have c21:=hrg 21 _ he1
 simp only [Nat.zero_add] at c21
 have hk0:Keeps w (w.alloc (.cells bv.toArray 36)):=(Keeps.refl w).alloc _
 have hz0:(w.alloc (.cells bv.toArray 36)).heap.size=w.heap.size+1:=by simp
 obtain ⟨W1,hW1⟩:∃ W1,w.alloc (.cells bv.toArray 36)=W1:=⟨_,rfl⟩
 rw [hW1] at c21 hk0 hz0
 have HB4:=Lib.hid (fbox_new W1 w.heap.size hz0 re rl)
 have HK4:Hid (Keeps w (((W1.alloc (.cells #[.int .i64 re,.int .i64 rl] 51)).alloc (.cells #[.int .i64 0,.int .i64 0,.int .i64 0,.int .i64 0,.int .i64 0,.string ⟨#[]⟩,.slice none 0 0] 56)).alloc (.cells #[.int .i64 0,.int .i64 0,.int .i64 0] 103))):=Lib.hid (((hk0.alloc _).alloc _).alloc _)
 have C4:Hid ((((W1.alloc (.cells #[.int .i64 re,.int .i64 rl] 51)).alloc (.cells #[.int .i64 0,.int .i64 0,.int .i64 0,.int .i64 0,.int .i64 0,.string ⟨#[]⟩,.slice none 0 0] 56)).alloc (.cells #[.int .i64 0,.int .i64 0,.int .i64 0] 103)).cell? ⟨w.heap.size,21,none⟩=some (.slice ao1 es.length cap1)):=Lib.hid (((((Keeps.refl W1).alloc _).alloc _).alloc _).cell c21)
 have hle:=hF.2.1
 have HFE:=Lib.hid hF
 clear hj hm hrg H hk0 hF
 go_enter Tryz.func92,Tryz.ntmps92
 go_wp2_with fail
 go_loopw [7] (fun vi wr=>∃ k:Nat,k≤es.length∧vi=.int .i64 k∧Hid (∀ e∈es.take k,e.x.id≠re)∧Hid (Keeps w wr∧FBox wr w.heap.size re rl∧wr.cell? ⟨w.heap.size,21,none⟩=some (.slice ao1 es.length cap1))) (fun vi _=>es.length - (intOf vi).toNat)
 case atStart=>exact ⟨0,Nat.zero_le _,rfl,Lib.hid (by simp),Lib.hid ⟨HK4.out,HB4.out,C4.out⟩⟩
 case round=>
  obtain ⟨k,hk,rfl,HN,HW⟩:=hrel
  obtain ⟨wa,rfl⟩:∃ wa:World,wa=wr:=⟨_,rfl⟩
  have c21a:=HW.out.2.2
  have r0a:=HW.out.2.1.r0
  have r1a:=HW.out.2.1.r1
  have hza:=HW.out.2.1.size
  by_cases hlt:k < es.length
  ·have hr:=HJ.out.row.keeps HW.out.1
   have hix:=Sl.at hr Tryz.underlying30 Tryz.sizeOf56 k hlt
   obtain ⟨y,hy⟩:∃ y,es[k]=y:=⟨_,rfl⟩
   have hyl:y.x.lines.length≤8:=by rw [← hy];exact HM.out _ (List.getElem_mem ..)
   have d0:=hr.cell JV.len k hlt 0 (.int .i64 y.x.id) (by rw [hy];rfl)
   rw [Nat.add_zero] at d0
   have d1:=hr.cell JV.len k hlt 1 (.int .i64 y.x.ent) (by rw [hy];rfl)
   have d2:=hr.cell JV.len k hlt 2 (.int .i64 y.x.date) (by rw [hy];rfl)
   have d3:=hr.cell JV.len k hlt 3 (.int .i64 y.x.kind) (by rw [hy];rfl)
   have d4:=hr.cell JV.len k hlt 4 (.int .i64 y.x.of_) (by rw [hy];rfl)
   have d5:=hr.cell JV.len k hlt 5 (.string y.x.text) (by rw [hy];rfl)
   have d6:=hr.cell JV.len k hlt 6 (.slice y.a y.x.lines.length y.c) (by rw [hy];rfl)
   have HL:Hid (∀ W,Keeps w W→Recs W 3 Ln.cells y.a y.x.lines y.c y.b y.o):=Lib.hid (fun W hW=>by rw [← hy];exact (HJ.out.lines _ (List.getElem_mem ..)).keeps hW)
   by_cases hi:y.x.id=re
   ·have ei:(y.x.id != re)=false:=by simpa using hi
    have hkk:k=k0:=FstE.unique ⟨HN.out,hk,fun h=>by rw [hy];exact hi⟩ HFE.out
    subst hkk
    by_cases hn:rl < 0
    ·have en:decide (rl < 0)=true:=by simpa using hn
     have HQ:Hid (findS es k rl=(Jrn.zero,Ln.zero,false)):=Lib.hid (findS_bad hlt (by unfold lineAt;rw [if_pos hn]))
     clear hn hy hi hr
     go_wp2_with fail
     go_quiet (fail)
     obtain ⟨wq,hwq⟩:∃ wq,wa.drewN nq=wq:=⟨_,rfl⟩
     have hkq:Keeps wa wq:=by rw [← hwq];exact (Keeps.refl wa).drewN nq
     have HKW:=Lib.hid (HW.out.1.trans hkq)
     have HBW:=Lib.hid (HW.out.2.1.keeps hkq)
     rw [hwq]
     clear hwq
     replace c21a:=hkq.cell c21a
     replace r1a:=hkq.cell r1a
     replace d0:=hkq.cell d0
     replace d1:=hkq.cell d1
     replace d2:=hkq.cell d2
     replace d3:=hkq.cell d3
     replace d4:=hkq.cell d4
     replace d5:=hkq.cell d5
     replace d6:=hkq.cell d6
     have hzq:=HBW.out.size
     have HBQ:=Lib.hid (HBW.out.keeps ((Keeps.refl wq).alloc (.cells #[.int .i64 y.x.id,.int .i64 y.x.ent,.int .i64 y.x.date,.int .i64 y.x.kind,.int .i64 y.x.of_,.string y.x.text,.slice y.a y.x.lines.length y.c] 56)))
     have HKQ:=Lib.hid (HKW.out.alloc (.cells #[.int .i64 y.x.id,.int .i64 y.x.ent,.int .i64 y.x.date,.int .i64 y.x.kind,.int .i64 y.x.of_,.string y.x.text,.slice y.a y.x.lines.length y.c] 56))
     have q7:=HBQ.out.r1
     go_wp2_with (first | (refine wpList_mid rfl 56 (.tmp 4) (.tmp 41) rfl (w.heap.size+1+1) 7 [.int .i64 0,.int .i64 0,.int .i64 0,.int .i64 0,.int .i64 0,.string ⟨#[]⟩,.slice none 0 0] rfl rfl rfl HBQ.out.t4 enSize (JV.one ⟨Jrn.zero,none,0,0,0⟩) ?_;intro w5 hw5) | (refine wpList_mid rfl 103 (.tmp 5) (.tmp 42) rfl (w.heap.size+1+1+1) 3 [.int .i64 0,.int .i64 0,.int .i64 0] rfl rfl rfl (by rw [← hw5];exact there_setCells HBQ.out.t5 _ _ _ (by omega)) lnSize (Ln.one Ln.zero) ?_;intro w6 hw6))
     rw [HQ.out]
     exact find_end rfl w _ w.heap.size Jrn.zero Ln.zero false none 0 0 0 (Sl.nil _ _) (by omega) (by omega) HBQ.out.t4 HBQ.out.t5 HKQ.out rfl _ rfl rfl rfl _ _ hw5 hw6
    ·have en:decide (rl < 0)=false:=by simpa using hn
     obtain ⟨n,hnn⟩:∃ n:Nat,rl=(n:Int):=⟨rl.toNat,by omega⟩
     subst hnn
     by_cases hnl:n < y.x.lines.length
     ·have e8:decide ((y.x.lines.length:Int)≤(n:Int))=false:=by simp;omega
      have HQ:Hid (findS es k n=(y.x,y.x.lines[n],true)):=Lib.hid (by rw [findS_some (n:=y.x.lines[n]) hlt (by rw [hy];unfold lineAt;rw [if_neg hn];simp [hnl]),hy])
      clear hn hy hi hr
      go_wp2_with fail
      go_quiet (fail)
      obtain ⟨wq,hwq⟩:∃ wq,wa.drewN nq=wq:=⟨_,rfl⟩
      have hkq:Keeps wa wq:=by rw [← hwq];exact (Keeps.refl wa).drewN nq
      have HKW:=Lib.hid (HW.out.1.trans hkq)
      have HBW:=Lib.hid (HW.out.2.1.keeps hkq)
      rw [hwq]
      clear hwq
      replace c21a:=hkq.cell c21a
      replace r1a:=hkq.cell r1a
      replace d0:=hkq.cell d0
      replace d1:=hkq.cell d1
      replace d2:=hkq.cell d2
      replace d3:=hkq.cell d3
      replace d4:=hkq.cell d4
      replace d5:=hkq.cell d5
      replace d6:=hkq.cell d6
      have hzq:=HBW.out.size
      obtain ⟨C,hC⟩:∃ C:List Value,C=[.int .i64 y.x.id,.int .i64 y.x.ent,.int .i64 y.x.date,.int .i64 y.x.kind,.int .i64 y.x.of_,.string y.x.text,.slice y.a y.x.lines.length y.c]:=⟨_,rfl⟩
      obtain ⟨l,hl⟩:∃ l,y.x.lines[n]=l:=⟨_,rfl⟩
      have hyb:y.b < w.heap.size:=World.block_lt_of_cell? w ⟨y.b,y.o+n * 3+0,none⟩ ((HL.out w (Keeps.refl w)).cell Ln.len n hnl 0 (.int .i64 l.acc) (by rw [hl];rfl))
      have hk6:=HKW.out.alloc (.cells #[.int .i64 y.x.id,.int .i64 y.x.ent,.int .i64 y.x.date,.int .i64 y.x.kind,.int .i64 y.x.of_,.string y.x.text,.slice y.a y.x.lines.length y.c] 56)
      have hrow:=HL.out _ hk6
      have hix5:=Sl.at hrow Tryz.underlying54 Tryz.sizeOf103 n hnl
      have k0':=hrow.cell Ln.len n hnl 0 (.int .i64 l.acc) (by rw [hl];rfl)
      have k1:=hrow.cell Ln.len n hnl 1 (.int .i64 l.amt) (by rw [hl];rfl)
      have k2:=hrow.cell Ln.len n hnl 2 (.int .i64 l.ptn) (by rw [hl];rfl)
      simp only [Nat.add_zero] at k0'
      have HB5:=HBW.out.keeps ((Keeps.refl wq).alloc (.cells #[.int .i64 y.x.id,.int .i64 y.x.ent,.int .i64 y.x.date,.int .i64 y.x.kind,.int .i64 y.x.of_,.string y.x.text,.slice y.a y.x.lines.length y.c] 56))
      have q0:(wq.alloc (.cells #[.int .i64 y.x.id,.int .i64 y.x.ent,.int .i64 y.x.date,.int .i64 y.x.kind,.int .i64 y.x.of_,.string y.x.text,.slice y.a y.x.lines.length y.c] 56)).cell? ⟨wq.heap.size,0,none⟩=some (.int .i64 y.x.id):=by go_simp
      have q1:(wq.alloc (.cells #[.int .i64 y.x.id,.int .i64 y.x.ent,.int .i64 y.x.date,.int .i64 y.x.kind,.int .i64 y.x.of_,.string y.x.text,.slice y.a y.x.lines.length y.c] 56)).cell? ⟨wq.heap.size,1,none⟩=some (.int .i64 y.x.ent):=by go_simp
      have q2:(wq.alloc (.cells #[.int .i64 y.x.id,.int .i64 y.x.ent,.int .i64 y.x.date,.int .i64 y.x.kind,.int .i64 y.x.of_,.string y.x.text,.slice y.a y.x.lines.length y.c] 56)).cell? ⟨wq.heap.size,2,none⟩=some (.int .i64 y.x.date):=by go_simp
      have q3:(wq.alloc (.cells #[.int .i64 y.x.id,.int .i64 y.x.ent,.int .i64 y.x.date,.int .i64 y.x.kind,.int .i64 y.x.of_,.string y.x.text,.slice y.a y.x.lines.length y.c] 56)).cell? ⟨wq.heap.size,3,none⟩=some (.int .i64 y.x.kind):=by go_simp
      have q4:(wq.alloc (.cells #[.int .i64 y.x.id,.int .i64 y.x.ent,.int .i64 y.x.date,.int .i64 y.x.kind,.int .i64 y.x.of_,.string y.x.text,.slice y.a y.x.lines.length y.c] 56)).cell? ⟨wq.heap.size,4,none⟩=some (.int .i64 y.x.of_):=by go_simp
      have q5:(wq.alloc (.cells #[.int .i64 y.x.id,.int .i64 y.x.ent,.int .i64 y.x.date,.int .i64 y.x.kind,.int .i64 y.x.of_,.string y.x.text,.slice y.a y.x.lines.length y.c] 56)).cell? ⟨wq.heap.size,5,none⟩=some (.string y.x.text):=by go_simp
      have q6:(wq.alloc (.cells #[.int .i64 y.x.id,.int .i64 y.x.ent,.int .i64 y.x.date,.int .i64 y.x.kind,.int .i64 y.x.of_,.string y.x.text,.slice y.a y.x.lines.length y.c] 56)).cell? ⟨wq.heap.size,6,none⟩=some (.slice y.a y.x.lines.length y.c):=by go_simp
      have q7:=HB5.r1
      have ht4:=HB5.t4
      have ht5:=HB5.t5
      go_upto_region 8 with (fail)
      obtain ⟨w6,hw6⟩:∃ w6,wq.alloc (.cells #[.int .i64 y.x.id,.int .i64 y.x.ent,.int .i64 y.x.date,.int .i64 y.x.kind,.int .i64 y.x.of_,.string y.x.text,.slice y.a y.x.lines.length y.c] 56)=w6:=⟨_,rfl⟩
      rw [hw6] at hrow k0' k1 k2 hk6 q0 q1 q2 q3 q4 q5 q6 q7 ht4 ht5 ⊢
      have HROW:=Lib.hid hrow
      have HK6:=Lib.hid hk6
      have HX6:Hid (∀ W,RS (w.heap.size+1+1) (w.heap.size+1+1+1) 7 3 C l.cells w6.drew W→(W.cell? ⟨wq.heap.size,0,none⟩=some (.int .i64 y.x.id)∧W.cell? ⟨wq.heap.size,1,none⟩=some (.int .i64 y.x.ent)∧W.cell? ⟨wq.heap.size,2,none⟩=some (.int .i64 y.x.date)∧W.cell? ⟨wq.heap.size,3,none⟩=some (.int .i64 y.x.kind)∧W.cell? ⟨wq.heap.size,4,none⟩=some (.int .i64 y.x.of_)∧W.cell? ⟨wq.heap.size,5,none⟩=some (.string y.x.text)∧W.cell? ⟨wq.heap.size,6,none⟩=some (.slice y.a y.x.lines.length y.c))∧W.cell? ⟨w.heap.size+1,1,none⟩=some (.int .i64 n)∧
        W.cell? ⟨y.b,y.o+n * 3,none⟩=some (.int .i64 l.acc)∧W.cell? ⟨y.b,y.o+n * 3+1,none⟩=some (.int .i64 l.amt)∧W.cell? ⟨y.b,y.o+n * 3+2,none⟩=some (.int .i64 l.ptn)∧W.there (w.heap.size+1+1) 0 7∧W.there (w.heap.size+1+1+1) 0 3):=Lib.hid (fun W hW=>by
       have hc:∀ p:Addr,p.block≠w.heap.size+1+1→p.block≠w.heap.size+1+1+1→∀ v,w6.cell? p=some v→W.cell? p=some v:=fun p h1 h2 v hv=>hW.cell p h1 h2 v hv
       refine ⟨⟨hc _ ?_ ?_ _ q0,hc _ ?_ ?_ _ q1,hc _ ?_ ?_ _ q2,hc _ ?_ ?_ _ q3,hc _ ?_ ?_ _ q4,hc _ ?_ ?_ _ q5,hc _ ?_ ?_ _ q6⟩,hc _ ?_ ?_ _ q7,hc _ ?_ ?_ _ k0',hc _ ?_ ?_ _ k1,hc _ ?_ ?_ _ k2,hW.t1 ht4,hW.t2 ht5⟩ <;> (simp only;omega))
      clear q0 q1 q2 q3 q4 q5 q6 q7 k0' k1 k2 ht4 ht5 hrow hk6 d0 d1 d2 d3 d4 d5 d6 c21a r1a hw6
      refine wp_region_steps (A:=?_) (RS (w.heap.size+1+1) (w.heap.size+1+1+1) 7 3 C l.cells) [some 43,some 44,some 45,some 46,some 47,some 48,some 49,none,none,some 6] [[],[],[1],[],[3],[2,4],[5],[0],[6],[]] 10 (by kernel_rfl) (by kernel_rfl) (by kernel_rfl) (by kernel_rfl) (by kernel_rfl) (by kernel_rfl) RS.refl (fun _ _ _=>RS.trans) ?_ ?_
      rotate_left
      ·intro f;simp only [putL,Act.put,List.setIfInBounds_toArray,List.set_cons_zero,List.set_cons_succ,Nat.zero_add,Nat.reduceAdd];exact rfl
      iterate 7 (refine Steps.pure (v:=?_) RS.refl rfl (fun f w' hR hV=>⟨?_,?_⟩) ?_;rotate_left;(focus rfl);(focus ((repeat (obtain ⟨hq,hV⟩:=hV;(try replace hq:_=_:=hq)));obtain ⟨⟨y0,y1,y2,y3,y4,y5,y6⟩,y7,m0,m1,m2,u4,u5⟩:=HX6.out _ hR;go_simp;all_goals (try with_reducible rfl))))
      refine Steps.call (fun W _=>W.rangeAt (w.heap.size+1+1) 0 C) rfl (fun _ _ _ k h=>k.r1 h) (fun f w' hR hV=>⟨?_,?_⟩) ?_
      ·(rfl)
      ·(obtain ⟨h0,_⟩:=hV;replace h0:f 0=_:=h0;obtain ⟨⟨y0,y1,y2,y3,y4,y5,y6⟩,y7,m0,m1,m2,u4,u5⟩:=HX6.out _ hR;exact wp_store_mid 56 (.tmp 4) (.tmp 43) rfl (w.heap.size+1+1) 0 C.toArray rfl (by rw [hC];exact h0) (by rw [hC];exact u4) (by rw [hC];exact enSize) (by rw [hC];exact all_oneCell_toArray (JV.one y)) (StepPost.of _ rfl (World.rangeAt_setCells_same _ _ _ _ (by rw [hC];exact u4)) (RS.set1 (by omega) (by rw [hC];exact u4))))
      refine Steps.call (fun W _=>W.rangeAt (w.heap.size+1+1+1) 0 l.cells) rfl (fun _ _ _ k h=>k.r2 h) (fun f w' hR hV=>⟨?_,?_⟩) ?_
      ·(rfl)
      ·(obtain ⟨h6,_⟩:=hV;replace h6:f 6=_:=h6;obtain ⟨⟨y0,y1,y2,y3,y4,y5,y6⟩,y7,m0,m1,m2,u4,u5⟩:=HX6.out _ hR;exact wp_store_mid 103 (.tmp 5) (.tmp 49) rfl (w.heap.size+1+1+1) 0 l.cells.toArray rfl h6 u5 lnSize (all_oneCell_toArray (Ln.one l)) (StepPost.of _ rfl (World.rangeAt_setCells_same _ _ _ _ u5) (RS.set2 (by omega) u5)))
      (refine Steps.pure (v:=?_) RS.refl rfl (fun f w' hR hV=>⟨?_,?_⟩) ?_;rotate_left;(focus rfl);(focus ((repeat (obtain ⟨hq,hV⟩:=hV;(try replace hq:_=_:=hq)));obtain ⟨⟨y0,y1,y2,y3,y4,y5,y6⟩,y7,m0,m1,m2,u4,u5⟩:=HX6.out _ hR;go_simp;all_goals (try with_reducible rfl))))
      all_goals (refine Steps.done [7,8,9] (by kernel_rfl) rfl (fun f wz hR hV=>?_);obtain ⟨h7,h8,h9,_⟩:=hV;replace h7:wz.rangeAt (w.heap.size+1+1) 0 C:=h7;replace h8:wz.rangeAt (w.heap.size+1+1+1) 0 l.cells:=h8;replace h9:f 9=_:=h9;simp only [h9])
      go_wp2_with fail
      refine bodyPost_ret (results_two rfl _ wz (w.heap.size+1+1) (w.heap.size+1+1+1) C l.cells _ _ rfl h7 Tryz.underlying56 rfl (by rw [hC];exact enSize) rfl h8 Tryz.underlying103 rfl lnSize) rfl ?_
      rw [HQ.out,hl]
      refine ⟨y.a,y.c,y.b,y.o,by rw [hC];rfl,⟨HROW.out.len,HROW.out.le,HROW.out.nocap,HROW.out.cap,HROW.out.addr,fun j u hu=>hR.cell _ ?_ ?_ _ (Sl.cell HROW.out j u hu)⟩,hR.keep w (by omega) (by omega) HK6.out.drew⟩ <;> (simp only;omega)
     ·have e8:decide ((y.x.lines.length:Int)≤(n:Int))=true:=by simp;omega
      have HQ:Hid (findS es k n=(Jrn.zero,Ln.zero,false)):=Lib.hid (findS_bad hlt (by rw [hy];unfold lineAt;rw [if_neg hn];simp;omega))
      clear hn hy hi hr
      go_wp2_with fail
      go_quiet (fail)
      obtain ⟨wq,hwq⟩:∃ wq,wa.drewN nq=wq:=⟨_,rfl⟩
      have hkq:Keeps wa wq:=by rw [← hwq];exact (Keeps.refl wa).drewN nq
      have HKW:=Lib.hid (HW.out.1.trans hkq)
      have HBW:=Lib.hid (HW.out.2.1.keeps hkq)
      rw [hwq]
      clear hwq
      replace c21a:=hkq.cell c21a
      replace r1a:=hkq.cell r1a
      replace d0:=hkq.cell d0
      replace d1:=hkq.cell d1
      replace d2:=hkq.cell d2
      replace d3:=hkq.cell d3
      replace d4:=hkq.cell d4
      replace d5:=hkq.cell d5
      replace d6:=hkq.cell d6
      have hzq:=HBW.out.size
      have HBQ:=Lib.hid (HBW.out.keeps ((Keeps.refl wq).alloc (.cells #[.int .i64 y.x.id,.int .i64 y.x.ent,.int .i64 y.x.date,.int .i64 y.x.kind,.int .i64 y.x.of_,.string y.x.text,.slice y.a y.x.lines.length y.c] 56)))
      have HKQ:=Lib.hid (HKW.out.alloc (.cells #[.int .i64 y.x.id,.int .i64 y.x.ent,.int .i64 y.x.date,.int .i64 y.x.kind,.int .i64 y.x.of_,.string y.x.text,.slice y.a y.x.lines.length y.c] 56))
      have q7:=HBQ.out.r1
      go_wp2_with (first | (refine wpList_mid rfl 56 (.tmp 4) (.tmp 41) rfl (w.heap.size+1+1) 7 [.int .i64 0,.int .i64 0,.int .i64 0,.int .i64 0,.int .i64 0,.string ⟨#[]⟩,.slice none 0 0] rfl rfl rfl HBQ.out.t4 enSize (JV.one ⟨Jrn.zero,none,0,0,0⟩) ?_;intro w5 hw5) | (refine wpList_mid rfl 103 (.tmp 5) (.tmp 42) rfl (w.heap.size+1+1+1) 3 [.int .i64 0,.int .i64 0,.int .i64 0] rfl rfl rfl (by rw [← hw5];exact there_setCells HBQ.out.t5 _ _ _ (by omega)) lnSize (Ln.one Ln.zero) ?_;intro w6 hw6))
      rw [HQ.out]
      exact find_end rfl w _ w.heap.size Jrn.zero Ln.zero false none 0 0 0 (Sl.nil _ _) (by omega) (by omega) HBQ.out.t4 HBQ.out.t5 HKQ.out rfl _ rfl rfl rfl _ _ hw5 hw6
   ·have ei:(y.x.id != re)=true:=by simpa using hi
    have HN2:Hid (∀ e∈es.take (k+1),e.x.id≠re):=Lib.hid (by
     rw [take_snoc _ k hlt]
     intro q hq
     rcases List.mem_append.1 hq with h | h
     ·exact HN.out q h
     ·rw [List.mem_singleton] at h;rw [h,hy];exact hi)
    clear hy hi hr
    go_wp2_with fail
    go_quiet (fail)
    go_wp2_with fail
    go_roundw
    case rel=>exact ⟨k+1,by omega,by go_num,HN2,Lib.hid ⟨HW.out.1.drewN _,HW.out.2.1.keeps ((Keeps.refl wa).drewN _),c21a⟩⟩
    case measure=>simp [intOf];omega
  ·obtain rfl:k=es.length:=by omega
   have hkk:es.length=k0:=FstE.unique ⟨HN.out,hk,fun h=>absurd h (Nat.lt_irrefl _)⟩ HFE.out
   have HQ:Hid (findS es k0 rl=(Jrn.zero,Ln.zero,false)):=Lib.hid (findS_none (by omega))
   have HBQ:=Lib.hid HW.out.2.1
   have HKQ:=Lib.hid HW.out.1
   go_wp2_with (first | (refine wpList_mid rfl 56 (.tmp 4) (.tmp 50) rfl (w.heap.size+1+1) 7 [.int .i64 0,.int .i64 0,.int .i64 0,.int .i64 0,.int .i64 0,.string ⟨#[]⟩,.slice none 0 0] rfl rfl rfl HBQ.out.t4 enSize (JV.one ⟨Jrn.zero,none,0,0,0⟩) ?_;intro w5 hw5) | (refine wpList_mid rfl 103 (.tmp 5) (.tmp 51) rfl (w.heap.size+1+1+1) 3 [.int .i64 0,.int .i64 0,.int .i64 0] rfl rfl rfl (by rw [← hw5];exact there_setCells HBQ.out.t5 _ _ _ (by omega)) lnSize (Ln.one Ln.zero) ?_;intro w6 hw6))
   rw [HQ.out]
   exact find_end rfl w wa w.heap.size Jrn.zero Ln.zero false none 0 0 0 (Sl.nil _ _) (by omega) (by omega) HBQ.out.t4 HBQ.out.t5 HKQ.out rfl _ rfl rfl rfl _ _ hw5 hw6
end Go.Proofs.YtoaidbhiciaeaaaGreat

end
section
namespace Go.Proofs.YtoaidbhiciaeaaaGreat
open Go.RowKit
deriving instance DecidableEq for Rf
def memB (L:List Rf) (r:Rf):Bool:=decide (r∈L)
theorem memB_snoc (L:List Rf) (r:Rf):setM (memB (L ++ [r])) r=some (.bool true)∧∀ d,d≠r→setM (memB (L ++ [r])) d=setM (memB L) d:=by
 refine ⟨?_,fun d hd=>?_⟩
 ·unfold setM memB
  rw [if_pos (by simp)]
 ·unfold setM memB
  have:(d∈L ++ [r])↔d∈L:=by simp [hd]
  simp only [this]
theorem eqlRef (x y:Rf) (w:World):(binOp .eql 51 (.agg #[.int .i64 x.e,.int .i64 x.l]) (.agg #[.int .i64 y.e,.int .i64 y.l])).run Tryz.prog w=.ok (.bool (decide (x=y))) w:=by
 obtain ⟨a,b⟩:=x
 obtain ⟨c,d⟩:=y
 by_cases h1:a=c
 ·subst h1
  by_cases h2:b=d
  ·subst h2
   simp only [decide_true]
   go_simp
  ·have h3:(b == d)=false:=by simpa using h2
   have h4:decide ((⟨a,b⟩:Rf)=⟨a,d⟩)=false:=by simp [h2]
   rw [h4]
   go_simp
 ·have h3:(a == c)=false:=by simpa using h1
  have h4:decide ((⟨a,b⟩:Rf)=⟨c,d⟩)=false:=by simp [h1]
  rw [h4]
  go_simp
set_option maxRecDepth 100000 in
theorem in_any (l:List Rf) (r:Rf) (ao:Option Addr) (cap b o:Nat) (w:World) (H:Recs w 2 Rf.cells ao l cap b o) :
  Calls Tryz.prog 14 #[.slice ao l.length cap,.agg #[.int .i64 r.e,.int .i64 r.l]] w fun e w'=>e=.returned (.bool (memB l r))∧Keeps w w':=by
 have hcap:=Sl.cap H
 have hle:=Sl.le H
 have HH:=Lib.hid H
 clear H
 have b0:(w.alloc (.cells #[.int .i64 r.e,.int .i64 r.l] 51)).cell? ⟨w.heap.size,0,none⟩=some (.int .i64 r.e):=by go_simp
 have b1:(w.alloc (.cells #[.int .i64 r.e,.int .i64 r.l] 51)).cell? ⟨w.heap.size,1,none⟩=some (.int .i64 r.l):=by go_simp
 have hk0:Keeps w (w.alloc (.cells #[.int .i64 r.e,.int .i64 r.l] 51)):=(Keeps.refl w).alloc _
 obtain ⟨W1,hW1⟩:∃ W1,w.alloc (.cells #[.int .i64 r.e,.int .i64 r.l] 51)=W1:=⟨_,rfl⟩
 rw [hW1] at b0 b1 hk0
 have HK0:=Lib.hid hk0
 clear hk0
 go_enter Tryz.func14,Tryz.ntmps14
 go_wp2_with fail
 try rw [hW1]
 clear hW1
 go_loopw [5] (fun vi wr=>∃ k:Nat,k≤l.length∧vi=.int .i64 k∧Hid (Keeps W1 wr)∧Hid (∀ q∈l.take k,q≠r)) (fun vi _=>l.length - (intOf vi).toNat)
 case atStart=>exact ⟨0,Nat.zero_le _,rfl,Lib.hid (Keeps.refl W1),Lib.hid (by simp)⟩
 case round=>
  obtain ⟨k,hk,rfl,HW,HZ⟩:=hrel
  by_cases hlt:k < l.length
  ·have hr:=HH.out.keeps (HK0.out.trans HW.out)
   have hix:=Sl.at hr Tryz.underlying46 Tryz.sizeOf51 k hlt
   obtain ⟨q,hq⟩:∃ q,l[k]=q:=⟨_,rfl⟩
   have c0:=hr.cell Rf.len k hlt 0 (.int .i64 q.e) (by rw [hq];rfl)
   have c1:=hr.cell Rf.len k hlt 1 (.int .i64 q.l) (by rw [hq];rfl)
   rw [Nat.add_zero] at c0
   have d0:=HW.out.cell b0
   have d1:=HW.out.cell b1
   have heq:∀ w,(binOp .eql 51 (.agg #[.int .i64 q.e,.int .i64 q.l]) (.agg #[.int .i64 r.e,.int .i64 r.l])).run Tryz.prog w=.ok (.bool (decide (q=r))) w:=eqlRef q r
   have HQ:=Lib.hid hq
   have HM:=Lib.hid (show q∈l by rw [← hq];exact List.getElem_mem ..)
   clear hr hq
   by_cases hqr:q=r
   ·have HR:Hid (memB l r=true):=Lib.hid (by unfold memB;rw [← hqr];exact decide_eq_true HM.out)
    rw [decide_eq_true hqr] at heq
    clear hqr
    go_wp2_with fail
    go_quiet (fail)
    go_wp2_with fail
    go_ret
    exact ⟨by rw [HR.out];rfl,HK0.out.trans (HW.out.drewN _)⟩
   ·have HR:=Lib.hid hqr
    rw [decide_eq_false hqr] at heq
    clear hqr
    go_wp2_with fail
    go_quiet (fail)
    go_wp2_with fail
    go_roundw
    case rel=>exact ⟨k+1,by omega,by go_num,Lib.hid (HW.out.drewN _),Lib.hid (by
     rw [take_snoc _ k hlt,HQ.out]
     intro u hu
     rcases List.mem_append.1 hu with h | h
     ·exact HZ.out u h
     ·rw [List.mem_singleton.1 h];exact HR.out)⟩
    case measure=>simp [intOf];omega
  ·obtain rfl:k=l.length:=by omega
   have HR:Hid (memB l r=false):=Lib.hid (by
    have h:=HZ.out
    rw [List.take_length] at h
    exact decide_eq_false (fun hm=>h r hm rfl))
   go_wp2_with fail
   go_ret
   exact ⟨by rw [HR.out];rfl,HK0.out.trans HW.out⟩
end Go.Proofs.YtoaidbhiciaeaaaGreat

end
section
namespace Go.Proofs.YtoaidbhiciaeaaaGreat
open Go.RowKit
theorem booksSize:(Tryz.prog.info? 36).map (·.size)=some 27:=by kernel_rfl
def fpos (es:List JV) (i:Int):Nat:=es.findIdx (fun e=>e.x.id == i)
theorem fpos_fst (es:List JV) (i:Int):FstE es i (fpos es i):=by
 unfold fpos
 refine ⟨fun e he=>?_,List.findIdx_le_length,fun h=>?_⟩
 ·obtain ⟨j,hj,rfl⟩:=List.mem_take_iff_getElem.1 he
  have:=List.not_of_lt_findIdx (p:=fun e:JV=>e.x.id == i) (xs:=es) (i:=j) (by omega)
  simpa using this
 ·have:=List.findIdx_getElem (p:=fun e:JV=>e.x.id == i) (xs:=es) (w:=h)
  simpa using this
def ep (es:List JV) (r:Rf):Option (Int × Int):=match es[fpos es r.e]? with
 | none=>none
 | some y=>(lineAt y.x.lines r.l).map (fun n=>(y.x.ent,n.ptn))
theorem ep_find (es:List JV) (r:Rf):(findS es (fpos es r.e) r.l).2.2=(ep es r).isSome∧(findS es (fpos es r.e) r.l).1.ent=((ep es r).getD (0,0)).1∧(findS es (fpos es r.e) r.l).2.1.ptn=((ep es r).getD (0,0)).2:=by
 unfold findS ep
 cases es[fpos es r.e]? with
 | none=>exact ⟨rfl,rfl,rfl⟩
 | some y=>
  simp only
  cases lineAt y.x.lines r.l with
  | none=>exact ⟨rfl,rfl,rfl⟩
  | some n=>exact ⟨rfl,rfl,rfl⟩
def sideE (es:List JV) (L:List Rf):Option (Int × Int):=match L with
 | []=>some (0,0)
 | r :: _=>if L.all (fun q=>decide (ep es q=ep es r)) then ep es r else none
theorem sideE_cons (es:List JV) (r:Rf) (t:List Rf):sideE es (r :: t)=if (r :: t).all (fun q=>decide (ep es q=ep es r)) then ep es r else none:=rfl
def entP (es:List JV) (L:List Rf):Int × Int × Bool:=match sideE es L with
 | none=>(0,0,false)
 | some q=>(q.1,q.2,decide (1≤L.length∧L.length≤12))
theorem sideE_bad1 {es:List JV} {L:List Rf} {k:Nat} (hk:k < L.length) (h:ep es L[k]=none):sideE es L=none:=by
 cases L with
 | nil=>simp at hk
 | cons r t=>
  rw [sideE_cons]
  by_cases ha:(r :: t).all (fun q=>decide (ep es q=ep es r))=true
  ·rw [if_pos ha]
   rw [List.all_eq_true] at ha
   have:=ha _ (List.getElem_mem hk)
   rw [decide_eq_true_eq] at this
   rw [← this,h]
  ·rw [if_neg ha]
theorem sideE_bad2 {es:List JV} {L:List Rf} {k:Nat} (hk:k < L.length) {x p:Int × Int} (h0:ep es (L[0]'(by omega))=some x) (h:ep es L[k]=some p) (hne:p≠x):sideE es L=none:=by
 cases L with
 | nil=>simp at hk
 | cons r t=>
  rw [sideE_cons,if_neg]
  rw [List.all_eq_true]
  intro ha
  have:=ha _ (List.getElem_mem hk)
  rw [decide_eq_true_eq,h] at this
  rw [List.getElem_cons_zero] at h0
  rw [h0] at this
  exact hne (Option.some.inj this)
theorem sideE_good {es:List JV} {L:List Rf} {x:Int × Int} (h:∀ j (hj:j < L.length),ep es L[j]=some x) (h0:L.length=0→x=(0,0)):sideE es L=some x:=by
 cases L with
 | nil=>unfold sideE;rw [h0 rfl]
 | cons r t=>
  have hr:ep es r=some x:=h 0 (by simp)
  rw [sideE_cons,if_pos,hr]
  rw [List.all_eq_true]
  intro q hq
  obtain ⟨j,hj,rfl⟩:=List.getElem_of_mem hq
  rw [decide_eq_true_eq,h j hj,hr]
theorem entP_bad {es:List JV} {L:List Rf} (h:sideE es L=none):entP es L=(0,0,false):=by unfold entP;rw [h]
theorem entP_good {es:List JV} {L:List Rf} {x:Int × Int} (h:sideE es L=some x):entP es L=(x.1,x.2,decide (1≤L.length∧L.length≤12)):=by unfold entP;rw [h]
def pairOk (es:List JV) (m:Mt):Bool:=(entP es m.left).2.2 && ((entP es m.right).2.2 && ((entP es m.left).1 != (entP es m.right).1 && ((entP es m.left).2.1 == (entP es m.right).1 && ((entP es m.right).2.1 == (entP es m.left).1 && (decide (1≤m.state) && decide (m.state≤5))))))
def sidesR (es:List JV) (m:Mt):Int × Int × Int:=if pairOk es m=true∧(m.left ++ m.right).Nodup then ((entP es m.left).1,(entP es m.right).1,0) else (0,0,1)
theorem sidesR_bad1 {es:List JV} {m:Mt} (h:pairOk es m=false):sidesR es m=(0,0,1):=if_neg (by rw [h];simp)
theorem sidesR_bad2 {es:List JV} {m:Mt} (h:¬ (m.left ++ m.right).Nodup):sidesR es m=(0,0,1):=if_neg (fun c=>h c.2)
theorem sidesR_good {es:List JV} {m:Mt} (h1:pairOk es m=true) (h:(m.left ++ m.right).Nodup):sidesR es m=((entP es m.left).1,(entP es m.right).1,0):=if_pos ⟨h1,h⟩
theorem nodup_take_bad {α:Type} {l:List α} {k:Nat} (hk:k < l.length) (h:l[k]∈l.take k):¬ l.Nodup:=fun hn=>by
 obtain ⟨j,hj,he⟩:=List.mem_take_iff_getElem.1 h
 exact List.pairwise_iff_getElem.1 hn j k (by omega) hk (by omega) he
theorem nodup_take {α:Type} {l:List α} (h:∀ k (hk:k < l.length),l[k]∉l.take k):l.Nodup:=
 List.pairwise_iff_getElem.2 fun i j hi hj hl he=>h j hj (List.mem_take_iff_getElem.2 ⟨i,by omega,he⟩)
def refsOf (ms:List MV):List Rf:=ms.flatMap (fun m=>m.x.left ++ m.x.right)
def okM (es:List JV) (ms:List MV) (k:Nat):Bool:=match ms[k]? with
 | none=>true
 | some m=>decide (1≤m.x.id) && (!((ms.take k).any (fun q=>q.x.id == m.x.id)) && ((sidesR es m.x).2.2 == 0 && (m.x.left ++ m.x.right).all (fun r=>!memB (refsOf (ms.take k)) r)))
def allMB (es:List JV) (ms:List MV):Bool:=(List.range ms.length).all (okM es ms) && decide (ms.length≤300)
theorem okM_at {es:List JV} {ms:List MV} {k:Nat} (hk:k < ms.length):okM es ms k=(decide (1≤ms[k].x.id) && (!((ms.take k).any (fun q=>q.x.id == ms[k].x.id)) && ((sidesR es ms[k].x).2.2 == 0 && (ms[k].x.left ++ ms[k].x.right).all (fun r=>!memB (refsOf (ms.take k)) r)))):=by
 unfold okM
 rw [List.getElem?_eq_getElem hk]
theorem allMB_bad {es:List JV} {ms:List MV} {k:Nat} (hk:k < ms.length) (h:okM es ms k=false):allMB es ms=false:=by unfold allMB;rw [allr_false hk h];rfl
theorem allMB_good {es:List JV} {ms:List MV} (h:∀ k,k < ms.length→okM es ms k=true):allMB es ms=decide (ms.length≤300):=by unfold allMB;rw [allr_true h];rfl
def EpOut (w:World) (q:Option (Int × Int)) (e:Ending) (w':World):Prop:=∃ (c0 c2 c3 c4:Int) (s:ByteArray) (ao:Option Addr) (n cap:Nat) (l0 l1:Int),e=.returned (.tuple #[.agg #[.int .i64 c0,.int .i64 (q.getD (0,0)).1,.int .i64 c2,.int .i64 c3,.int .i64 c4,.string s,.slice ao n cap],.agg #[.int .i64 l0,.int .i64 l1,.int .i64 (q.getD (0,0)).2],.bool q.isSome])∧Keeps w w'
theorem epP_any (bv:List Value) (es:List JV) (ms:List MV) (r:Rf) (w:World) (H:Bks w bv es ms) (hm:∀ e∈es,e.x.lines.length≤8) :
  Calls Tryz.prog 151 #[.agg bv.toArray,.agg #[.int .i64 r.e,.int .i64 r.l]] w (EpOut w (ep es r)):=
 (pfind_any bv es ms r.e r.l _ (fpos_fst es r.e) w H hm).mono (by
  rintro e w' ⟨ao,cap,b,o,rfl,_,hk⟩
  obtain ⟨h1,h2,h3⟩:=ep_find es r
  rw [h1]
  refine ⟨(findS es (fpos es r.e) r.l).1.id,(findS es (fpos es r.e) r.l).1.date,(findS es (fpos es r.e) r.l).1.kind,(findS es (fpos es r.e) r.l).1.of_,(findS es (fpos es r.e) r.l).1.text,ao,(findS es (fpos es r.e) r.l).1.lines.length,cap,(findS es (fpos es r.e) r.l).2.1.acc,(findS es (fpos es r.e) r.l).2.1.amt,?_,hk⟩
  rw [← h2,← h3]
  rfl)
theorem epR_any (bv:List Value) (es:List JV) (ms:List MV) (r:Rf) (w:World) (H:Bks w bv es ms) (hm:∀ e∈es,e.x.lines.length≤8) :
  Calls Tryz.prog 92 #[.agg bv.toArray,.agg #[.int .i64 r.e,.int .i64 r.l]] w (EpOut w (ep es r)):=
 (rpfind_any bv es ms r.e r.l _ (fpos_fst es r.e) w H hm).mono (by
  rintro e w' ⟨ao,cap,b,o,rfl,_,hk⟩
  obtain ⟨h1,h2,h3⟩:=ep_find es r
  rw [h1]
  refine ⟨(findS es (fpos es r.e) r.l).1.id,(findS es (fpos es r.e) r.l).1.date,(findS es (fpos es r.e) r.l).1.kind,(findS es (fpos es r.e) r.l).1.of_,(findS es (fpos es r.e) r.l).1.text,ao,(findS es (fpos es r.e) r.l).1.lines.length,cap,(findS es (fpos es r.e) r.l).2.1.acc,(findS es (fpos es r.e) r.l).2.1.amt,?_,hk⟩
  rw [← h2,← h3]
  rfl)
end Go.Proofs.YtoaidbhiciaeaaaGreat

end
