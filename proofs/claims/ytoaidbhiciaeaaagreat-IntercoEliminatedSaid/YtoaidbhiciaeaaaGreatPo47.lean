/- Walks and plain facts that the claim rests on (SdsR, RAvW, RChk). No condition. -/
import Derived.Test.YtoaidbhiciaeaaaGreatPo46
import Derived.Deep.RegionHeld3
import Derived.Test.YtoaidbhiciaeaaaGreatPo34
set_option linter.unusedSimpArgs false
set_option linter.unusedVariables false
set_option maxHeartbeats 16000000
section
namespace Go.Proofs.YtoaidbhiciaeaaaGreat
open Go.RowKit
set_option maxRecDepth 100000 in
theorem rsides_any (bv:List Value) (es:List JV) (ms:List MV) (m:Mt) (aoL:Option Addr) (capL bL oL:Nat) (aoR:Option Addr) (capR bR oR:Nat) (w:World) (H:Bks w bv es ms) (hm:∀ e∈es,e.x.lines.length≤8)
  (HL:Recs w 2 Rf.cells aoL m.left capL bL oL) (HR:Recs w 2 Rf.cells aoR m.right capR bR oR) :
  Calls Tryz.prog 32 #[.agg bv.toArray,.agg #[.int .i64 m.id,.slice aoL m.left.length capL,.slice aoR m.right.length capR,.int .i64 m.state]] w fun e w'=>e=.returned (.tuple #[.int .i64 (sidesR es m).1,.int .i64 (sidesR es m).2.1,.int .i64 (sidesR es m).2.2])∧Keeps w w':=by
 have HBL:=Lib.hid H.len
 have HE1:Hid (∀ W,Keeps w W→Calls Tryz.prog 55 #[.agg bv.toArray,.slice aoL m.left.length capL] W fun e w'=>e=.returned (.tuple #[.int .i64 (sideR es m.left).1,.int .i64 (sideR es m.left).2.1,.bool (sideR es m.left).2.2])∧Keeps W w'):=Lib.hid (fun W hk=>sdR_any bv es ms m.left aoL capL bL oL W (H.keeps hk) hm (HL.keeps hk))
 have HE2:Hid (∀ W,Keeps w W→Calls Tryz.prog 55 #[.agg bv.toArray,.slice aoR m.right.length capR] W fun e w'=>e=.returned (.tuple #[.int .i64 (sideR es m.right).1,.int .i64 (sideR es m.right).2.1,.bool (sideR es m.right).2.2])∧Keeps W w'):=Lib.hid (fun W hk=>sdR_any bv es ms m.right aoR capR bR oR W (H.keeps hk) hm (HR.keeps hk))
 have hpo:pairR es m=((sideR es m.left).2.2 && ((sideR es m.right).2.2 && ((sideR es m.left).1 != (sideR es m.right).1 && ((sideR es m.left).2.1 == (sideR es m.right).1 && ((sideR es m.right).2.1 == (sideR es m.left).1 && (decide (1≤m.state) && decide (m.state≤5))))))):=rfl
 have hsr:=sidesR_ref es m
 obtain ⟨⟨x,px,q1⟩,hx⟩:∃ q,sideR es m.left=q:=⟨_,rfl⟩
 obtain ⟨⟨y,py,q2⟩,hy⟩:∃ q,sideR es m.right=q:=⟨_,rfl⟩
 rw [hx] at HE1 hpo hsr
 rw [hy] at HE2 hpo hsr
 simp only at HE1 HE2 hpo hsr
 have hrg:=box_range w bv 36
 have hk0:Keeps w (w.alloc (.cells bv.toArray 36)):=(Keeps.refl w).alloc _
 obtain ⟨W1,hW1⟩:∃ W1,w.alloc (.cells bv.toArray 36)=W1:=⟨_,rfl⟩
 have hz1:w.heap.size+1=W1.heap.size:=by rw [← hW1];simp
 rw [hW1] at hrg hk0
 have HW1:=Lib.hid hk0
 have HRG:Hid (∀ W,Keeps W1 W→W.rangeAt w.heap.size 0 bv):=Lib.hid (fun W hk=>range_keeps hrg hk)
 clear H HL HR hrg hk0 hx hy
 go_enter Tryz.func32,Tryz.ntmps32;go_upto_region 1 with fail;(try rw [hW1]);(try rw [hz1]);clear hW1
 go_upto_region 3 with (first | (refine wpList_rowG 36 _ rfl rfl w.heap.size bv _ rfl (HRG.out _ ((Keeps.refl W1).alloc _)) Tryz.underlying36 rfl (by rw [HBL.out];exact booksSize) ?_) | (refine wpList_rowG 36 _ rfl rfl w.heap.size bv _ rfl (HRG.out _ (K1.out)) Tryz.underlying36 rfl (by rw [HBL.out];exact booksSize) ?_) | (go_at_call 55;guard_hyp HE1:_;(refine (HE1.out _ (HW1.out.trans ((Keeps.refl W1).alloc _))).mono ?_);rintro e1 w1 ⟨rfl,hk1⟩;have K1:=Lib.hid (((Keeps.refl W1).alloc (.cells #[.int .i64 m.id,.slice aoL m.left.length capL,.slice aoR m.right.length capR,.int .i64 m.state] 48)).trans hk1);have x1:=hk1.cell (p:=⟨W1.heap.size,1,none⟩) (v:=.slice aoL m.left.length capL) (by go_simp);have x3:=hk1.cell (p:=⟨W1.heap.size,3,none⟩) (v:=.int .i64 m.state) (by go_simp);have x2:=hk1.cell (p:=⟨W1.heap.size,2,none⟩) (v:=.slice aoR m.right.length capR) (by go_simp);have hzb:=World.block_lt_of_cell? _ _ x2;clear HE1 hk1) | (go_at_call 55;(refine (HE2.out _ (HW1.out.trans K1.out)).mono ?_);rintro e3 w3 ⟨rfl,hk3⟩;have y1:=hk3.cell x1;have y2:=hk3.cell x2;have y3:=hk3.cell x3;have hzc:=World.block_lt_of_cell? _ _ y2;have K3:=Lib.hid (K1.out.trans hk3);clear hk3 x1 x2 x3 hzb))
 by_cases hp:pairR es m=true
 ·have HBD:=Lib.hid (hsr.trans (if_pos hp))
  rw [hpo] at hp
  simp only [Bool.and_eq_true,decide_eq_true_eq] at hp
  obtain ⟨rfl,rfl,e1,e2,e3,hs1,hs2⟩:=hp
  have f1:(x == y)=false:=by simpa [bne] using e1
  have f2:(px != y)=false:=by simp [bne,e2]
  have f3:(py != x)=false:=by simp [bne,e3]
  have f4:decide (m.state < 1)=false:=decide_eq_false (by omega)
  have f5:decide (5 < m.state)=false:=decide_eq_false (by omega)
  clear hpo hsr e1 e2 e3 hs1 hs2
  (go_wp2_with fail;(refine bodyPost_ret (results_tmp3 rfl _ _ _) rfl ?_);rw [HBD.out];exact ⟨rfl,HW1.out.trans K3.out⟩)
 ·have HBD:=Lib.hid (hsr.trans (if_neg hp))
  rw [hpo] at hp
  clear hpo hsr
  cases q1 with
  | false=>
   clear hp
   (go_wp2_with fail;(refine bodyPost_ret (results_tmp3 rfl _ _ _) rfl ?_);rw [HBD.out];exact ⟨rfl,HW1.out.trans K3.out⟩)
  | true=>
   cases q2 with
   | false=>
    clear hp
    (go_wp2_with fail;(refine bodyPost_ret (results_tmp3 rfl _ _ _) rfl ?_);rw [HBD.out];exact ⟨rfl,HW1.out.trans K3.out⟩)
   | true=>
    by_cases g1:x=y
    ·have f1:(x == y)=true:=by simpa using g1
     clear g1 hp
     (go_wp2_with fail;(refine bodyPost_ret (results_tmp3 rfl _ _ _) rfl ?_);rw [HBD.out];exact ⟨rfl,HW1.out.trans K3.out⟩)
    have f1:(x == y)=false:=by simpa using g1
    by_cases g2:px=y
    ·have f2:(px != y)=false:=by simpa using g2
     by_cases g3:py=x
     ·have f3:(py != x)=false:=by simpa using g3
      by_cases g4:m.state < 1
      ·have f4:decide (m.state < 1)=true:=decide_eq_true g4
       clear hp g1 g2 g3 g4
       (go_wp2_with fail;(refine bodyPost_ret (results_tmp3 rfl _ _ _) rfl ?_);rw [HBD.out];exact ⟨rfl,HW1.out.trans K3.out⟩)
      ·have f4:decide (m.state < 1)=false:=decide_eq_false g4
       by_cases g5:5 < m.state
       ·have f5:decide (5 < m.state)=true:=decide_eq_true g5
        clear hp g1 g2 g3 g4 g5
        (go_wp2_with fail;(refine bodyPost_ret (results_tmp3 rfl _ _ _) rfl ?_);rw [HBD.out];exact ⟨rfl,HW1.out.trans K3.out⟩)
       ·exfalso
        apply hp
        simp [g1,g2,g3]
        omega
     ·have f3:(py != x)=true:=by simpa using g3
      clear hp g1 g2 g3
      (go_wp2_with fail;(refine bodyPost_ret (results_tmp3 rfl _ _ _) rfl ?_);rw [HBD.out];exact ⟨rfl,HW1.out.trans K3.out⟩)
    ·have f2:(px != y)=true:=by simpa using g2
     clear hp g1 g2
     (go_wp2_with fail;(refine bodyPost_ret (results_tmp3 rfl _ _ _) rfl ?_);rw [HBD.out];exact ⟨rfl,HW1.out.trans K3.out⟩)
end Go.Proofs.YtoaidbhiciaeaaaGreat

end
section
namespace Go.Proofs.YtoaidbhiciaeaaaGreat
open Go.RowKit
set_option maxRecDepth 100000 in
theorem rmval_any (bv:List Value) (es:List JV) (ms:List MV) (m:Mt) (aoL:Option Addr) (capL bL oL:Nat) (aoR:Option Addr) (capR bR oR:Nat) (w:World) (H:Bks w bv es ms) (hm:∀ e∈es,e.x.lines.length≤8)
  (HL:Recs w 2 Rf.cells aoL m.left capL bL oL) (HR:Recs w 2 Rf.cells aoR m.right capR bR oR) :
  Calls Tryz.prog 90 #[.agg bv.toArray,.agg #[.int .i64 m.id,.slice aoL m.left.length capL,.slice aoR m.right.length capR,.int .i64 m.state]] w fun e w'=>e=.returned (.bool ((sidesR es m).2.2 == 0))∧Keeps w w':=by
 have HBL:=Lib.hid H.len
 have HS:Hid (∀ W,Keeps w W→Calls Tryz.prog 32 #[.agg bv.toArray,.agg #[.int .i64 m.id,.slice aoL m.left.length capL,.slice aoR m.right.length capR,.int .i64 m.state]] W fun e w'=>e=.returned (.tuple #[.int .i64 (sidesR es m).1,.int .i64 (sidesR es m).2.1,.int .i64 (sidesR es m).2.2])∧Keeps W w'):=Lib.hid (fun W hk=>rsides_any bv es ms m aoL capL bL oL aoR capR bR oR W (H.keeps hk) hm (HL.keeps hk) (HR.keeps hk))
 obtain ⟨⟨x,y,e⟩,he⟩:∃ q,sidesR es m=q:=⟨_,rfl⟩
 rw [he] at HS ⊢
 have hrg:=box_range w bv 36
 have hk0:Keeps w (w.alloc (.cells bv.toArray 36)):=(Keeps.refl w).alloc _
 obtain ⟨W1,hW1⟩:∃ W1,w.alloc (.cells bv.toArray 36)=W1:=⟨_,rfl⟩
 have hz1:w.heap.size+1=W1.heap.size:=by rw [← hW1];simp
 rw [hW1] at hrg hk0
 have HW1:=Lib.hid hk0
 have HRG:Hid (∀ W,Keeps W1 W→W.rangeAt w.heap.size 0 bv):=Lib.hid (fun W hk=>range_keeps hrg hk)
 clear H HL HR hrg hk0 he
 go_enter Tryz.func90,Tryz.ntmps90
 go_upto_region 1 with fail
 (try rw [hW1])
 (try rw [hz1])
 clear hW1
 go_wp2_with (first | (refine wpList_rowG 36 _ rfl rfl w.heap.size bv _ rfl (HRG.out _ ((Keeps.refl W1).alloc _)) Tryz.underlying36 rfl (by rw [HBL.out];exact booksSize) ?_) | (go_at_call 32;(refine (HS.out _ (HW1.out.trans ((Keeps.refl W1).alloc _))).mono ?_);rintro e1 w1 ⟨rfl,hk1⟩;have K1:=Lib.hid (((Keeps.refl W1).alloc (.cells #[.int .i64 m.id,.slice aoL m.left.length capL,.slice aoR m.right.length capR,.int .i64 m.state] 48)).trans hk1);clear hk1))
 go_ret
 exact ⟨rfl,HW1.out.trans K1.out⟩
theorem refsOf_len {ms:List MV} (h:∀ m∈ms,m.x.left.length≤400∧m.x.right.length≤400):(refsOf ms).length≤800 * ms.length:=by
 induction ms with
 | nil=>exact Nat.zero_le _
 | cons m t ih=>
  have h1:=h m (List.mem_cons_self ..)
  have h2:=ih (fun x hx=>h x (List.mem_cons_of_mem _ hx))
  unfold refsOf at *
  rw [List.flatMap_cons,List.length_append,List.length_append,List.length_cons]
  omega
set_option maxRecDepth 100000 in
theorem rallM_any (bv:List Value) (es:List JV) (ms:List MV) (w:World) (H:Bks w bv es ms) (hm:∀ e∈es,e.x.lines.length≤8) (hs:∀ m∈ms,m.x.left.length≤400∧m.x.right.length≤400) (hml:ms.length≤1000) :
  Calls Tryz.prog 52 #[.agg bv.toArray] w fun e w'=>e=.returned (.bool (allMB es ms))∧Keeps w w':=by
 obtain ⟨ao1,cap1,b1,o1,hb24,hmt⟩:=H.mts
 have hcap1:=Sl.cap hmt.row
 have hle1:=Sl.le hmt.row
 have HMT:=Lib.hid hmt
 have HBL:=Lib.hid H.len
 have HV0:Hid (∀ m∈ms,∀ W,Keeps w W→Calls Tryz.prog 90 #[.agg bv.toArray,.agg #[.int .i64 m.x.id,.slice m.al m.x.left.length m.cl,.slice m.ar m.x.right.length m.cr,.int .i64 m.x.state]] W fun e w'=>e=.returned (.bool ((sidesR es m.x).2.2 == 0))∧Keeps W w'):=Lib.hid (fun m hmem W hk=>rmval_any bv es ms m.x m.al m.cl m.bl m.ol m.ar m.cr m.br m.or_ W (H.keeps hk) hm ((hmt.left m hmem).keeps hk) ((hmt.right m hmem).keeps hk))
 have HSZ:=Lib.hid hs
 have hrg:=box_range w bv 36
 have hk0:Keeps w (w.alloc (.cells bv.toArray 36)):=(Keeps.refl w).alloc _
 obtain ⟨W1,hW1⟩:∃ W1,w.alloc (.cells bv.toArray 36)=W1:=⟨_,rfl⟩
 rw [hW1] at hrg hk0
 have HW1:=Lib.hid hk0
 have g24:=hrg 24 _ hb24
 simp only [Nat.zero_add] at g24
 have HRG:Hid (∀ W,Keeps W1 W→W.rangeAt w.heap.size 0 bv):=Lib.hid (fun W hk=>range_keeps hrg hk)
 have G24:=Lib.hid g24
 clear H hmt hrg hk0 hs hb24 g24
 go_enter Tryz.func52,Tryz.ntmps52
 go_wp2_with fail
 (try rw [hW1])
 clear hW1
 go_loopw [3,4] (fun vu vi wr=>∃ k:Nat,k≤ms.length∧vi=.int .i64 k∧Hid (∀ j,j < k→okM es ms j=true)∧Hid (Keeps W1 wr∧wr.ownsRow W1.heap.size 51 2 vu (refsOf (ms.take k)).length ((refsOf (ms.take k)).flatMap Rf.cells))) (fun _ vi _=>ms.length - (intOf vi).toNat)
 case atStart=>exact ⟨0,Nat.zero_le _,rfl,Lib.hid (fun j hj=>absurd hj (Nat.not_lt_zero _)),Lib.hid ⟨Keeps.refl W1,by rw [List.take_zero];exact World.ownsRow_nil _ _ _ _⟩⟩
 case round=>
  obtain ⟨k,hk,rfl,HN,HW⟩:=hrel
  have g24:=HW.out.1.cell G24.out
  have hzg:=World.block_lt_of_cell? _ _ g24
  by_cases hlt:k < ms.length
  ·have hr:=HMT.out.row.keeps (HW1.out.trans HW.out.1)
   have hix:=Sl.at hr Tryz.underlying33 Tryz.sizeOf48 k hlt
   have hmem:=List.getElem_mem hlt
   have hokl:=okM_at (es:=es) hlt
   have hrs:=refsOf_snoc hlt
   have hrl:=refsOf_len (ms:=ms.take k) (fun m hm=>HSZ.out m (List.mem_of_mem_take hm))
   rw [List.length_take,Nat.min_eq_left hk] at hrl
   obtain ⟨m,hmk⟩:∃ m,ms[k]=m:=⟨_,rfl⟩
   have c0:=hr.cell MV.len k hlt 0 (.int .i64 m.x.id) (by rw [hmk];rfl)
   have c1:=hr.cell MV.len k hlt 1 (.slice m.al m.x.left.length m.cl) (by rw [hmk];rfl)
   have c2:=hr.cell MV.len k hlt 2 (.slice m.ar m.x.right.length m.cr) (by rw [hmk];rfl)
   have c3:=hr.cell MV.len k hlt 3 (.int .i64 m.x.state) (by rw [hmk];rfl)
   rw [Nat.add_zero] at c0
   have hzr:=World.block_lt_of_cell? _ _ c0
   rw [hmk] at hmem hokl hrs
   have hsz:=HSZ.out m hmem
   have HV:=Lib.hid (HV0.out m hmem)
   have HLL:Hid (∀ W,Keeps w W→Recs W 2 Rf.cells m.al m.x.left m.cl m.bl m.ol):=Lib.hid (fun W hW=>(HMT.out.left m hmem).keeps hW)
   have HRR:Hid (∀ W,Keeps w W→Recs W 2 Rf.cells m.ar m.x.right m.cr m.br m.or_):=Lib.hid (fun W hW=>(HMT.out.right m hmem).keeps hW)
   obtain ⟨ao3,cap3,b3,rfl,hs3⟩:=Sl.own HW.out.2
   have HS3:Hid (Recs wr 2 Rf.cells ao3 (refsOf (ms.take k)) cap3 b3 0):=Lib.hid hs3
   have hcap3:=Sl.cap hs3
   have hle3:=Sl.le hs3
   have HRS:=Lib.hid hrs
   clear hr hmk hmem hrs hs3
   cases hv:((sidesR es m.x).2.2 == 0) with
   | false=>
    rw [hv] at HV hokl
    have HBD:=Lib.hid (allMB_bad hlt (hokl.trans (by simp)))
    clear hokl hv
    go_wp2_with (first | (refine wpList_rowG 36 _ rfl rfl w.heap.size bv _ rfl (HRG.out _ (HW.out.1.alloc _)) Tryz.underlying36 rfl (by rw [HBL.out];exact booksSize) ?_) | (go_at_call 90;(refine (HV.out _ (HW1.out.trans (HW.out.1.alloc _))).mono ?_);rintro e2 w2 ⟨rfl,hk2⟩;have K2:Hid (Keeps W1 w2):=Lib.hid ((HW.out.1.alloc (.cells #[.int .i64 m.x.id,.slice m.al m.x.left.length m.cl,.slice m.ar m.x.right.length m.cr,.int .i64 m.x.state] 48)).trans hk2);have K2r:Hid (Keeps wr w2):=Lib.hid (((Keeps.refl wr).alloc (.cells #[.int .i64 m.x.id,.slice m.al m.x.left.length m.cl,.slice m.ar m.x.right.length m.cr,.int .i64 m.x.state] 48)).trans hk2);have x0:=hk2.cell (p:=⟨wr.heap.size,0,none⟩) (v:=.int .i64 m.x.id) (by go_simp);have x1:=hk2.cell (p:=⟨wr.heap.size,1,none⟩) (v:=.slice m.al m.x.left.length m.cl) (by go_simp);have x2:=hk2.cell (p:=⟨wr.heap.size,2,none⟩) (v:=.slice m.ar m.x.right.length m.cr) (by go_simp);have hz2:=World.block_lt_of_cell? _ _ x1;clear hk2))
    go_ret
    rw [HBD.out]
    exact ⟨rfl,HW1.out.trans K2.out⟩
   | true=>
   rw [hv] at HV hokl
   clear hv
   by_cases h1:m.x.id < 1
   ·have e1:decide (m.x.id < 1)=true:=decide_eq_true h1
    have HBD:=Lib.hid (allMB_bad hlt (hokl.trans (by rw [decide_eq_false (by omega:¬ 1≤m.x.id)];rfl)))
    clear hokl h1
    go_wp2_with (first | (refine wpList_rowG 36 _ rfl rfl w.heap.size bv _ rfl (HRG.out _ (HW.out.1.alloc _)) Tryz.underlying36 rfl (by rw [HBL.out];exact booksSize) ?_) | (go_at_call 90;(refine (HV.out _ (HW1.out.trans (HW.out.1.alloc _))).mono ?_);rintro e2 w2 ⟨rfl,hk2⟩;have K2:Hid (Keeps W1 w2):=Lib.hid ((HW.out.1.alloc (.cells #[.int .i64 m.x.id,.slice m.al m.x.left.length m.cl,.slice m.ar m.x.right.length m.cr,.int .i64 m.x.state] 48)).trans hk2);have K2r:Hid (Keeps wr w2):=Lib.hid (((Keeps.refl wr).alloc (.cells #[.int .i64 m.x.id,.slice m.al m.x.left.length m.cl,.slice m.ar m.x.right.length m.cr,.int .i64 m.x.state] 48)).trans hk2);have x0:=hk2.cell (p:=⟨wr.heap.size,0,none⟩) (v:=.int .i64 m.x.id) (by go_simp);have x1:=hk2.cell (p:=⟨wr.heap.size,1,none⟩) (v:=.slice m.al m.x.left.length m.cl) (by go_simp);have x2:=hk2.cell (p:=⟨wr.heap.size,2,none⟩) (v:=.slice m.ar m.x.right.length m.cr) (by go_simp);have hz2:=World.block_lt_of_cell? _ _ x1;clear hk2))
    go_ret
    rw [HBD.out]
    exact ⟨rfl,HW1.out.trans K2.out⟩
   have e1:decide (m.x.id < 1)=false:=decide_eq_false h1
   rw [decide_eq_true (by omega:1≤m.x.id)] at hokl
   obtain ⟨l,hl⟩:∃ l,m.x.left ++ m.x.right=l:=⟨_,rfl⟩
   have HLN:Hid (l.length=m.x.left.length+m.x.right.length):=Lib.hid (by rw [← hl,List.length_append])
   have hl8:l.length≤800:=by have:=HLN.out;omega
   rw [hl] at HRS hokl
   have HL:=Lib.hid hl
   have HOKL:Hid (okM es ms k=(!((ms.take k).any (fun q=>q.x.id == m.x.id)) && l.all (fun r=>!memB (refsOf (ms.take k)) r))):=Lib.hid (hokl.trans (by simp))
   clear hokl h1 hl
   go_wp2_with (first | (refine wpList_rowG 36 _ rfl rfl w.heap.size bv _ rfl (HRG.out _ (HW.out.1.alloc _)) Tryz.underlying36 rfl (by rw [HBL.out];exact booksSize) ?_) | (go_at_call 90;(refine (HV.out _ (HW1.out.trans (HW.out.1.alloc _))).mono ?_);rintro e2 w2 ⟨rfl,hk2⟩;have K2:Hid (Keeps W1 w2):=Lib.hid ((HW.out.1.alloc (.cells #[.int .i64 m.x.id,.slice m.al m.x.left.length m.cl,.slice m.ar m.x.right.length m.cr,.int .i64 m.x.state] 48)).trans hk2);have K2r:Hid (Keeps wr w2):=Lib.hid (((Keeps.refl wr).alloc (.cells #[.int .i64 m.x.id,.slice m.al m.x.left.length m.cl,.slice m.ar m.x.right.length m.cr,.int .i64 m.x.state] 48)).trans hk2);have x0:=hk2.cell (p:=⟨wr.heap.size,0,none⟩) (v:=.int .i64 m.x.id) (by go_simp);have x1:=hk2.cell (p:=⟨wr.heap.size,1,none⟩) (v:=.slice m.al m.x.left.length m.cl) (by go_simp);have x2:=hk2.cell (p:=⟨wr.heap.size,2,none⟩) (v:=.slice m.ar m.x.right.length m.cr) (by go_simp);have hz2:=World.block_lt_of_cell? _ _ x1;clear hk2))
   have HB2:Hid (∀ W,Keeps w2 W→W.cell? ⟨wr.heap.size,0,none⟩=some (.int .i64 m.x.id)∧W.cell? ⟨wr.heap.size,1,none⟩=some (.slice m.al m.x.left.length m.cl)∧W.cell? ⟨wr.heap.size,2,none⟩=some (.slice m.ar m.x.right.length m.cr)):=Lib.hid (fun W hW=>⟨hW.cell x0,hW.cell x1,hW.cell x2⟩)
   have HU2:Hid (Recs w2 2 Rf.cells ao3 (refsOf (ms.take k)) cap3 b3 0):=Lib.hid (HS3.out.keeps K2r.out)
   have HOU2:Hid (w2.ownsRow W1.heap.size 51 2 (.slice ao3 (refsOf (ms.take k)).length cap3) (refsOf (ms.take k)).length ((refsOf (ms.take k)).flatMap Rf.cells)):=Lib.hid (own_keepsH HW.out.2 K2r.out)
   obtain ⟨B2,hB2⟩:∃ B2,wr.heap.size=B2:=⟨_,rfl⟩
   rw [hB2] at HB2 ⊢
   clear x0 x1 x2 hz2 hzr hzg g24 c0 c1 c2 c3 HS3 HW hB2 K2r
   go_loopw [6] (fun vj w8=>∃ j:Nat,j≤k∧vj=.int .i64 j∧Hid (∀ i (hi:i < ms.length),i < j→ms[i].x.id≠m.x.id)∧Hid (Keeps w2 w8)) (fun vj _=>k - (intOf vj).toNat)
   case atStart=>exact ⟨0,Nat.zero_le _,rfl,Lib.hid (fun i _ h=>absurd h (Nat.not_lt_zero _)),Lib.hid (Keeps.refl _)⟩
   case round=>
    obtain ⟨j,hj,rfl,HN8,HW8⟩:=hrel
    obtain ⟨x0,x1,x2⟩:=HB2.out _ HW8.out
    by_cases hjk:j < k
    ·have hjl:j < ms.length:=by omega
     have hr:=HMT.out.row.keeps (HW1.out.trans (K2.out.trans HW8.out))
     have hix2:=Sl.at hr Tryz.underlying33 Tryz.sizeOf48 j hjl
     have g24:=(K2.out.trans HW8.out).cell G24.out
     obtain ⟨q,hq⟩:∃ q,ms[j]=q:=⟨_,rfl⟩
     have d0:=hr.cell MV.len j hjl 0 (.int .i64 q.x.id) (by rw [hq];rfl)
     simp only [Nat.add_zero] at d0
     have HQ:=Lib.hid hq
     clear hr hq
     by_cases he:q.x.id=m.x.id
     ·have e3:(q.x.id == m.x.id)=true:=by simpa using he
      have HBD:=Lib.hid (allMB_bad hlt (HOKL.out.trans (by
       rw [List.any_eq_true.2 ⟨q,List.mem_take_iff_getElem.2 ⟨j,by omega,HQ.out⟩,e3⟩];rfl)))
      clear he
      go_upto_region 11 with fail
      go_quiet (fail)
      go_wp2_with fail
      go_ret
      rw [HBD.out]
      exact ⟨rfl,HW1.out.trans (K2.out.trans (HW8.out.drewN _))⟩
     ·have e3:(q.x.id == m.x.id)=false:=by simpa using he
      have HN9:Hid (∀ i (hi:i < ms.length),i < j+1→ms[i].x.id≠m.x.id):=Lib.hid (fun i hi hij=>by
       by_cases e:i < j
       ·exact HN8.out i hi e
       ·obtain rfl:i=j:=by omega
        rw [HQ.out];exact he)
      clear he
      go_upto_region 11 with fail
      go_quiet (fail)
      go_wp2_with fail
      go_roundw
      case rel=>exact ⟨j+1,by omega,by go_num,HN9,Lib.hid (HW8.out.drewN _)⟩
      case measure=>simp [intOf];omega
    ·have HOK2:Hid (okM es ms k=l.all (fun r=>!memB (refsOf (ms.take k)) r)):=Lib.hid (HOKL.out.trans (by
      rw [List.any_eq_false.2 (fun q hq=>by
       obtain ⟨i,hi,rfl⟩:=List.mem_take_iff_getElem.1 hq
       have:=HN8.out i (by omega) (by omega)
       simpa using this)]
      rfl))
     have HLZ:Hid (∀ W,Keeps wr W→Recs W 2 Rf.cells m.al m.x.left m.cl m.bl m.ol):=Lib.hid (fun W hW=>HLL.out W (HW1.out.trans (K2.out.trans (HW8.out.trans hW))))
     have HRZ:Hid (∀ W,Keeps wr W→Recs W 2 Rf.cells m.ar m.x.right m.cr m.br m.or_):=Lib.hid (fun W hW=>HRR.out W (HW1.out.trans (K2.out.trans (HW8.out.trans hW))))
     have HB9:Hid (∀ W,Keeps wr W→W.cell? ⟨B2,1,none⟩=some (.slice m.al m.x.left.length m.cl)∧W.cell? ⟨B2,2,none⟩=some (.slice m.ar m.x.right.length m.cr)):=Lib.hid (fun W hW=>⟨hW.cell x1,hW.cell x2⟩)
     clear x0 x1 x2
     go_upto_region 13 with fail
     go_region_held3 (fun w'=>w'.cell? ⟨B2,1,none⟩=some (.slice m.al m.x.left.length m.cl)∧w'.cell? ⟨B2,2,none⟩=some (.slice m.ar m.x.right.length m.cr))
      (first | exact HB9.out _ hk2 | exact HB9.out _ hk1 | exact HB9.out _ (Keeps.refl wr).drew | exact HB9.out _ ((Keeps.refl wr).alloc _).drew)
      (first | (guard_hyp hown1:_;refine step_all_raw elemRf rfl (.tmp 47) (.tmp 49) rfl v1 m.x.left.length _ rfl wr.heap.size hown1 hz1 m.ar m.x.right.length m.cr m.br m.or_ (m.x.right.flatMap Rf.cells) rfl (HRZ.out _ hk1) (ones_rf _) (by omega) (by omega) ?_;intro v2 w9 hown2 hgrow2 hat2;have hk2:Keeps wr w9:=Below.grown hk1 hgrow2 hk1.size (fun j hj=>(hown1.lt j hj).1)) | (refine step_all_raw elemRf rfl (.tmp 44) (.tmp 46) rfl _ 0 [] rfl wr.heap.size (own_emptyx (by simp) (by simp)) (by simp) m.al m.x.left.length m.cl m.bl m.ol (m.x.left.flatMap Rf.cells) rfl (HLZ.out _ ((Keeps.refl wr).alloc _).drew) (ones_rf _) (by omega) (by omega) ?_;intro v1 w1 hown1 hgrow1 hat1;rw [Nat.zero_add,List.nil_append] at hown1;have hk1:Keeps wr w1:=Below.grown ((Keeps.refl wr).alloc _).drew hgrow1 (by simp) (fun j hj=>by simp [Act.eval,Value.ownBlock] at hj;omega);have hz1:=hk1.size))
     all_goals
      obtain ⟨aoA,capA,bA,rfl,hsA⟩:=Sl.own hown2
      have hcapA:=Sl.cap hsA
      have hleA:=Sl.le hsA
      have hSA:Recs w9 2 Rf.cells aoA l capA bA 0:=by
       rw [← List.flatMap_append,HL.out,← HLN.out] at hsA
       exact hsA
      have HSA:=Lib.hid hSA
      have HU8:=Lib.hid (HU2.out.keeps (HW8.out.trans hk2))
      have HOU:=Lib.hid (own_keepsH HOU2.out (HW8.out.trans hk2))
      have HK9:=Lib.hid (K2.out.trans (HW8.out.trans hk2))
      rw [← HLN.out] at hleA
      simp only [← HLN.out]
      clear hown1 hgrow1 hat1 hk1 hz1 hown2 hgrow2 hat2 hk2 hsA hSA HW8 HN8
      go_wp2_with fail
      go_loopw [8] (fun vj w8=>∃ j:Nat,j≤l.length∧vj=.int .i64 j∧Hid (∀ i (hi:i < l.length),i < j→memB (refsOf (ms.take k)) l[i]=false)∧Hid (Keeps w9 w8)) (fun vj _=>l.length - (intOf vj).toNat)
      case atStart=>exact ⟨0,Nat.zero_le _,rfl,Lib.hid (fun i _ h=>absurd h (Nat.not_lt_zero _)),Lib.hid (Keeps.refl _)⟩
      case round=>
       clear hj hjk
       obtain ⟨j,hj,rfl,HN8,HV8⟩:=hrel
       by_cases hjl:j < l.length
       ·have hr:=HSA.out.keeps HV8.out
        have hix2:=Sl.at hr Tryz.underlying46 Tryz.sizeOf51 j hjl
        obtain ⟨r,hrj⟩:∃ r,l[j]=r:=⟨_,rfl⟩
        have d0:=hr.cell Rf.len j hjl 0 (.int .i64 r.e) (by rw [hrj];rfl)
        have d1:=hr.cell Rf.len j hjl 1 (.int .i64 r.l) (by rw [hrj];rfl)
        simp only [Nat.add_zero,Nat.zero_add] at d0 d1 hix2
        have HRJ:=Lib.hid hrj
        clear hr hrj
        cases hs:memB (refsOf (ms.take k)) r with
        | true=>
         have HBD:=Lib.hid (allMB_bad hlt (HOK2.out.trans (by
          rw [List.all_eq_false]
          exact ⟨r,by rw [← HRJ.out];exact List.getElem_mem ..,by rw [hs];simp⟩)))
         have HIN:Hid (∀ W,Recs W 2 Rf.cells ao3 (refsOf (ms.take k)) cap3 b3 0→Calls Tryz.prog 14 #[.slice ao3 (refsOf (ms.take k)).length cap3,.agg #[.int .i64 r.e,.int .i64 r.l]] W fun e w'=>e=.returned (.bool true)∧Keeps W w'):=Lib.hid (fun W hW=>by have:=in_any (refsOf (ms.take k)) r ao3 cap3 b3 0 W hW;rw [hs] at this;exact this)
         clear hs
         go_wp2_with (go_at_call 14;(refine (HIN.out _ (HU8.out.keeps HV8.out)).mono ?_);rintro e7 w7 ⟨rfl,hk7⟩)
         go_ret
         rw [HBD.out]
         exact ⟨rfl,HW1.out.trans (HK9.out.trans (HV8.out.trans hk7))⟩
        | false=>
         have HN9:Hid (∀ i (hi:i < l.length),i < j+1→memB (refsOf (ms.take k)) l[i]=false):=Lib.hid (fun i hi hij=>by
          by_cases e:i < j
          ·exact HN8.out i hi e
          ·obtain rfl:i=j:=by omega
           rw [HRJ.out];exact hs)
         have HIN:Hid (∀ W,Recs W 2 Rf.cells ao3 (refsOf (ms.take k)) cap3 b3 0→Calls Tryz.prog 14 #[.slice ao3 (refsOf (ms.take k)).length cap3,.agg #[.int .i64 r.e,.int .i64 r.l]] W fun e w'=>e=.returned (.bool false)∧Keeps W w'):=Lib.hid (fun W hW=>by have:=in_any (refsOf (ms.take k)) r ao3 cap3 b3 0 W hW;rw [hs] at this;exact this)
         clear hs
         go_wp2_with (go_at_call 14;(refine (HIN.out _ (HU8.out.keeps HV8.out)).mono ?_);rintro e7 w7 ⟨rfl,hk7⟩)
         go_roundw
         case rel=>exact ⟨j+1,by omega,by go_num,HN9,Lib.hid (HV8.out.trans hk7)⟩
         case measure=>simp [intOf];omega
       ·have HOE:Hid (okM es ms k=true):=Lib.hid (HOK2.out.trans (by
         rw [List.all_eq_true]
         intro r hr
         obtain ⟨i,hi,rfl⟩:=List.getElem_of_mem hr
         rw [HN8.out i hi (by omega)];rfl))
        go_wp2_with (at_builtin;(refine wpList_app_all elemRf rfl (.tmp 63) (.tmp 64) rfl W1 (.slice ao3 (refsOf (ms.take k)).length cap3) (refsOf (ms.take k)).length ((refsOf (ms.take k)).flatMap Rf.cells) rfl W1.heap.size (own_keepsH HOU.out HV8.out) (HK9.out.trans HV8.out) (HK9.out.trans HV8.out).size aoA l.length capA bA 0 (l.flatMap Rf.cells) (by rfl) (HSA.out.keeps HV8.out) (ones_rf l) (by omega) (by omega) ?_);intro v6 w6 hown6 hb6 hsz6;have HXK:Hid (Keeps W1 w6∧w6.ownsRow W1.heap.size 51 2 v6 (refsOf (ms.take (k+1))).length ((refsOf (ms.take (k+1))).flatMap Rf.cells)):=Lib.hid ⟨hb6,by rw [HRS.out,List.flatMap_append,List.length_append];exact hown6⟩;clear hown6 hb6 hsz6)
        go_roundw
        case rel=>exact ⟨k+1,by omega,by go_num,Lib.hid (fun i hi=>by by_cases h:i < k;(exact HN.out i h);(rw [show i=k from by omega];exact HOE.out)),HXK⟩
        case measure=>simp [intOf];omega
  ·have HGD:=Lib.hid (allMB_good (es:=es) (ms:=ms) (fun j hj=>HN.out j (by omega)))
   by_cases h3:ms.length≤300
   ·have e3:decide ((ms.length:Int)≤300)=true:=decide_eq_true (by omega)
    rw [decide_eq_true h3] at HGD
    clear h3
    go_wp2_with fail
    go_ret
    rw [HGD.out]
    exact ⟨rfl,HW1.out.trans HW.out.1⟩
   ·have e3:decide ((ms.length:Int)≤300)=false:=decide_eq_false (by omega)
    rw [decide_eq_false h3] at HGD
    clear h3
    go_wp2_with fail
    go_ret
    rw [HGD.out]
    exact ⟨rfl,HW1.out.trans HW.out.1⟩
end Go.Proofs.YtoaidbhiciaeaaaGreat

end
section
namespace Go.Proofs.YtoaidbhiciaeaaaGreat
open Go.RowKit
set_option maxRecDepth 100000 in
theorem rcheck_any (bv:List Value) (g:Grp) (es:List JV) (hs:List Hol) (ms:List MV) (items:List Itm) (p:Int) (w:World) (H:BkG w bv g es hs ms) (SM:SmallB g es hs ms items) :
  Calls Tryz.prog 28 #[.agg bv.toArray,.int .i64 p] w fun e w'=>e=.returned (.int .i64 (errI g es hs ms p))∧Keeps w w':=by
 have HBL:=Lib.hid H.bks.len
 obtain ⟨aoC,capC,bC,oC,aoE,capE,bE,oE,hgc,hC,hE⟩:=H.grp
 obtain ⟨aoH,capH,bH,oH,hb23,hH⟩:=H.hol
 have HG:Hid (∀ W,Keeps w W→Calls Tryz.prog 50 #[.agg #[.string g.cur,.int .i64 g.y,.int .i64 g.m,.int .i64 g.n,.slice aoC g.chart.length capC,.int .i64 g.rl.r0,.int .i64 g.rl.r1,.int .i64 g.rl.r2,.int .i64 g.rl.r3,.int .i64 g.rl.r4,.int .i64 g.rl.r5,.int .i64 g.rl.r6,.int .i64 g.rl.r7,.int .i64 g.rl.r8,.int .i64 g.rl.r9,.int .i64 g.rl.r10,.int .i64 g.rl.r11,.int .i64 g.rl.r12,.int .i64 g.rl.r13,.int .i64 g.rl.r14,.slice aoE g.ents.length capE]] W fun r w'=>r=.returned (.bool (grpB g))∧Keeps W w'):=Lib.hid (fun W hk=>rgrp_any g aoC capC bC oC aoE capE bE oE W (hC.keeps hk) (hE.keeps hk) SM.gok)
 have HH:Hid (∀ W,Keeps w W→Calls Tryz.prog 51 #[.int .i64 (g.ents.length:Int),.slice aoH hs.length capH] W fun r w'=>r=.returned (.bool (hvalidB (g.ents.length:Int) hs))∧Keeps W w'):=Lib.hid (fun W hk=>hrvalid_any _ aoH hs capH bH oH W (hH.keeps hk) (by have:=SM.hlen;omega))
 have HA:Hid (∀ W,Keeps w W→Calls Tryz.prog 52 #[.agg bv.toArray] W fun r w'=>r=.returned (.bool (allMB es ms))∧Keeps W w'):=Lib.hid (fun W hk=>rallM_any bv es ms W (H.bks.keeps hk) SM.lines SM.sides SM.mlen)
 have hrg:=box_range w bv 36
 have hk0:Keeps w (w.alloc (.cells bv.toArray 36)):=(Keeps.refl w).alloc _
 obtain ⟨W1,hW1⟩:∃ W1,w.alloc (.cells bv.toArray 36)=W1:=⟨_,rfl⟩
 rw [hW1] at hrg hk0
 have HW1:=Lib.hid hk0
 have HRG:Hid (∀ W,Keeps W1 W→W.rangeAt w.heap.size 0 bv):=Lib.hid (fun W hk=>range_keeps hrg hk)
 have HGG:Hid (∀ W,Keeps W1 W→W.rangeAt w.heap.size 0 (g.cells (.slice aoC g.chart.length capC) (.slice aoE g.ents.length capE))):=Lib.hid (fun W hk j v hv=>range_keeps hrg hk j v (hgc j v hv))
 have HCX:Hid (∀ W,Keeps W1 W→W.cell? ⟨w.heap.size,3,none⟩=some (.int .i64 g.n)∧W.cell? ⟨w.heap.size,20,none⟩=some (.slice aoE g.ents.length capE)∧W.cell? ⟨w.heap.size,23,none⟩=some (.slice aoH hs.length capH)):=Lib.hid (fun W hk=>by
  have hr:=range_keeps hrg hk
  have h3:=hr 3 _ (hgc 3 _ rfl)
  have h20:=hr 20 _ (hgc 20 _ rfl)
  have h23:=hr 23 _ hb23
  simp only [Nat.zero_add] at h3 h20 h23
  exact ⟨h3,h20,h23⟩)
 clear H hC hE hH SM hrg hk0 hgc hb23
 cases h1:grpB g with
 | false=>
  have HE:Hid (errI g es hs ms p=1):=Lib.hid (if_neg (by rw [h1];simp))
  rw [h1] at HG
  clear h1
  go_enter Tryz.func28,Tryz.ntmps28;go_upto_region 1 with fail;(try rw [hW1]);clear hW1
  go_wp2_with (first | (refine wpList_rowG 29 _ rfl rfl w.heap.size (g.cells (.slice aoC g.chart.length capC) (.slice aoE g.ents.length capE)) _ rfl (HGG.out _ (Keeps.refl W1)) Tryz.underlying29 rfl groupSize ?_) | (refine wpList_rowG 36 _ rfl rfl w.heap.size bv _ rfl (HRG.out _ (K2.out)) Tryz.underlying36 rfl (by rw [HBL.out];exact booksSize) ?_) | (go_at_call 50;(refine (HG.out _ HW1.out).mono ?_);rintro e1 w1 ⟨rfl,hk1⟩;have K1:Hid (Keeps W1 w1):=Lib.hid hk1;obtain ⟨z3,z20,z23⟩:=HCX.out _ hk1;have hzz:=World.block_lt_of_cell? _ _ z3;clear hk1) | (go_at_call 51;(refine (HH.out _ (HW1.out.trans K1.out)).mono ?_);rintro e2 w2 ⟨rfl,hk2⟩;have K2:Hid (Keeps W1 w2):=Lib.hid (K1.out.trans hk2);clear z3 z20 z23 hzz hk2) | (go_at_call 52;(refine (HA.out _ (HW1.out.trans K2.out)).mono ?_);rintro e3 w3 ⟨rfl,hk3⟩;have K3:Hid (Keeps W1 w3):=Lib.hid (K2.out.trans hk3);obtain ⟨z3,z20,z23⟩:=HCX.out _ K3.out;have hzz:=World.block_lt_of_cell? _ _ z3;clear hk3))
  go_ret
  exact ⟨by rw [HE.out];rfl,HW1.out.trans K1.out⟩
 | true=>
 rw [h1] at HG
 cases h2:hvalidB (g.ents.length:Int) hs with
 | false=>
  have HE:Hid (errI g es hs ms p=1):=Lib.hid (if_neg (by rw [h2];simp))
  rw [h2] at HH
  clear h1 h2
  go_enter Tryz.func28,Tryz.ntmps28;go_upto_region 1 with fail;(try rw [hW1]);clear hW1
  go_wp2_with (first | (refine wpList_rowG 29 _ rfl rfl w.heap.size (g.cells (.slice aoC g.chart.length capC) (.slice aoE g.ents.length capE)) _ rfl (HGG.out _ (Keeps.refl W1)) Tryz.underlying29 rfl groupSize ?_) | (refine wpList_rowG 36 _ rfl rfl w.heap.size bv _ rfl (HRG.out _ (K2.out)) Tryz.underlying36 rfl (by rw [HBL.out];exact booksSize) ?_) | (go_at_call 50;(refine (HG.out _ HW1.out).mono ?_);rintro e1 w1 ⟨rfl,hk1⟩;have K1:Hid (Keeps W1 w1):=Lib.hid hk1;obtain ⟨z3,z20,z23⟩:=HCX.out _ hk1;have hzz:=World.block_lt_of_cell? _ _ z3;clear hk1) | (go_at_call 51;(refine (HH.out _ (HW1.out.trans K1.out)).mono ?_);rintro e2 w2 ⟨rfl,hk2⟩;have K2:Hid (Keeps W1 w2):=Lib.hid (K1.out.trans hk2);clear z3 z20 z23 hzz hk2) | (go_at_call 52;(refine (HA.out _ (HW1.out.trans K2.out)).mono ?_);rintro e3 w3 ⟨rfl,hk3⟩;have K3:Hid (Keeps W1 w3):=Lib.hid (K2.out.trans hk3);obtain ⟨z3,z20,z23⟩:=HCX.out _ K3.out;have hzz:=World.block_lt_of_cell? _ _ z3;clear hk3))
  go_ret
  exact ⟨by rw [HE.out];rfl,HW1.out.trans K2.out⟩
 | true=>
 rw [h2] at HH
 cases h3:allMB es ms with
 | false=>
  have HE:Hid (errI g es hs ms p=1):=Lib.hid (if_neg (by rw [h3];simp))
  rw [h3] at HA
  clear h1 h2 h3
  go_enter Tryz.func28,Tryz.ntmps28;go_upto_region 1 with fail;(try rw [hW1]);clear hW1
  go_wp2_with (first | (refine wpList_rowG 29 _ rfl rfl w.heap.size (g.cells (.slice aoC g.chart.length capC) (.slice aoE g.ents.length capE)) _ rfl (HGG.out _ (Keeps.refl W1)) Tryz.underlying29 rfl groupSize ?_) | (refine wpList_rowG 36 _ rfl rfl w.heap.size bv _ rfl (HRG.out _ (K2.out)) Tryz.underlying36 rfl (by rw [HBL.out];exact booksSize) ?_) | (go_at_call 50;(refine (HG.out _ HW1.out).mono ?_);rintro e1 w1 ⟨rfl,hk1⟩;have K1:Hid (Keeps W1 w1):=Lib.hid hk1;obtain ⟨z3,z20,z23⟩:=HCX.out _ hk1;have hzz:=World.block_lt_of_cell? _ _ z3;clear hk1) | (go_at_call 51;(refine (HH.out _ (HW1.out.trans K1.out)).mono ?_);rintro e2 w2 ⟨rfl,hk2⟩;have K2:Hid (Keeps W1 w2):=Lib.hid (K1.out.trans hk2);clear z3 z20 z23 hzz hk2) | (go_at_call 52;(refine (HA.out _ (HW1.out.trans K2.out)).mono ?_);rintro e3 w3 ⟨rfl,hk3⟩;have K3:Hid (Keeps W1 w3):=Lib.hid (K2.out.trans hk3);obtain ⟨z3,z20,z23⟩:=HCX.out _ K3.out;have hzz:=World.block_lt_of_cell? _ _ z3;clear hk3))
  go_ret
  exact ⟨by rw [HE.out];rfl,HW1.out.trans K3.out⟩
 | true=>
 rw [h3] at HA
 have hee:errI g es hs ms p=if p < 0∨g.n≤p then 2 else 0:=if_pos ⟨h1,h2,h3⟩
 clear h1 h2 h3
 go_enter Tryz.func28,Tryz.ntmps28;go_upto_region 1 with fail;(try rw [hW1]);clear hW1
 go_upto_region 3 with (first | (refine wpList_rowG 29 _ rfl rfl w.heap.size (g.cells (.slice aoC g.chart.length capC) (.slice aoE g.ents.length capE)) _ rfl (HGG.out _ (Keeps.refl W1)) Tryz.underlying29 rfl groupSize ?_) | (refine wpList_rowG 36 _ rfl rfl w.heap.size bv _ rfl (HRG.out _ (K2.out)) Tryz.underlying36 rfl (by rw [HBL.out];exact booksSize) ?_) | (go_at_call 50;(refine (HG.out _ HW1.out).mono ?_);rintro e1 w1 ⟨rfl,hk1⟩;have K1:Hid (Keeps W1 w1):=Lib.hid hk1;obtain ⟨z3,z20,z23⟩:=HCX.out _ hk1;have hzz:=World.block_lt_of_cell? _ _ z3;clear hk1) | (go_at_call 51;(refine (HH.out _ (HW1.out.trans K1.out)).mono ?_);rintro e2 w2 ⟨rfl,hk2⟩;have K2:Hid (Keeps W1 w2):=Lib.hid (K1.out.trans hk2);clear z3 z20 z23 hzz hk2) | (go_at_call 52;(refine (HA.out _ (HW1.out.trans K2.out)).mono ?_);rintro e3 w3 ⟨rfl,hk3⟩;have K3:Hid (Keeps W1 w3):=Lib.hid (K2.out.trans hk3);obtain ⟨z3,z20,z23⟩:=HCX.out _ K3.out;have hzz:=World.block_lt_of_cell? _ _ z3;clear hk3))
 by_cases c1:p < 0
 ·have e1:decide (p < 0)=true:=decide_eq_true c1
  have HE:Hid (errI g es hs ms p=2):=Lib.hid (hee.trans (if_pos (.inl c1)))
  clear c1 hee
  go_wp2_with fail
  go_ret
  exact ⟨by rw [HE.out];rfl,HW1.out.trans K3.out⟩
 have e1:decide (p < 0)=false:=decide_eq_false c1
 by_cases c2:g.n≤p
 ·have e2:decide (g.n≤p)=true:=decide_eq_true c2
  have HE:Hid (errI g es hs ms p=2):=Lib.hid (hee.trans (if_pos (.inr c2)))
  clear c1 c2 hee
  go_wp2_with fail
  go_ret
  exact ⟨by rw [HE.out];rfl,HW1.out.trans K3.out⟩
 have e2:decide (g.n≤p)=false:=decide_eq_false c2
 have HE:Hid (errI g es hs ms p=0):=Lib.hid (hee.trans (if_neg (by rintro (h | h);exact c1 h;exact c2 h)))
 clear c1 c2 hee
 go_wp2_with fail
 go_ret
 exact ⟨by rw [HE.out];rfl,HW1.out.trans K3.out⟩
end Go.Proofs.YtoaidbhiciaeaaaGreat

end
