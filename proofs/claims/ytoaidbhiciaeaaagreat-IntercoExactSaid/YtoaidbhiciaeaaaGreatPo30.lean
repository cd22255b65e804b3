/- Walks and plain facts that the claim rests on (MchA, IcoP, GrpR). No condition. -/
import Derived.Test.YtoaidbhiciaeaaaGreatPo29
import Derived.Test.YtoaidbhiciaeaaaGreatPo23
import Derived.Test.YtoaidbhiciaeaaaGreatPo24
import Derived.Test.YtoaidbhiciaeaaaGreatPo21
set_option linter.unusedSimpArgs false
set_option linter.unusedVariables false
set_option maxHeartbeats 16000000
section
namespace Go.Proofs.YtoaidbhiciaeaaaGreat
open Go.RowKit
theorem sidesR_ok {es:List JV} {m:Mt} (h:(sidesR es m).2.2=0):pairOk es m=true∧(m.left ++ m.right).Nodup:=by
 unfold sidesR at h
 by_cases hc:pairOk es m=true∧(m.left ++ m.right).Nodup
 ·exact hc
 ·rw [if_neg hc] at h;simp at h
theorem refsOf_snoc {ms:List MV} {k:Nat} (hk:k < ms.length):refsOf (ms.take (k+1))=refsOf (ms.take k) ++ (ms[k].x.left ++ ms[k].x.right):=by
 unfold refsOf
 rw [take_snoc _ _ hk,List.flatMap_append]
 simp
set_option maxRecDepth 100000 in
theorem allMP_any (bv:List Value) (es:List JV) (ms:List MV) (w:World) (H:Bks w bv es ms) (hm:∀ e∈es,e.x.lines.length≤8) (hs:∀ m∈ms,m.x.left.length≤400∧m.x.right.length≤400) (hid:∀ m∈ms,I64 m.x.id) (hml:ms.length≤1000) :
  Calls Tryz.prog 40 #[.agg bv.toArray] w fun e w'=>e=.returned (.bool (allMB es ms))∧Keeps w w':=by
 have hmm:=@run_makeMap Tryz.prog
 obtain ⟨ao1,cap1,b1,o1,hb24,hmt⟩:=H.mts
 have hcap1:=Sl.cap hmt.row
 have hle1:=Sl.le hmt.row
 have HMT:=Lib.hid hmt
 have HBL:=Lib.hid H.len
 have HV0:Hid (∀ m∈ms,∀ W,Keeps w W→Calls Tryz.prog 69 #[.agg bv.toArray,.agg #[.int .i64 m.x.id,.slice m.al m.x.left.length m.cl,.slice m.ar m.x.right.length m.cr,.int .i64 m.x.state]] W fun e w'=>e=.returned (.bool ((sidesR es m.x).2.2 == 0))∧Keeps W w'):=Lib.hid (fun m hmem W hk=>mval_any bv es ms m.x m.al m.cl m.bl m.ol m.ar m.cr m.br m.or_ W (H.keeps hk) hm ((hmt.left m hmem).keeps hk) ((hmt.right m hmem).keeps hk) (hs m hmem).1 (hs m hmem).2 (H.mok m hmem))
 have HC0:Hid (∀ m∈ms,∀ W ao cap b o,Keeps w W→Sl W 1 ao 2 cap b o [.slice m.al m.x.left.length m.cl,.slice m.ar m.x.right.length m.cr]→Calls Tryz.prog 70 #[.slice ao 2 cap] W fun e w'=>∃ v,e=.returned v∧w'.ownsRow W.heap.size 51 2 v (m.x.left ++ m.x.right).length ((m.x.left ++ m.x.right).flatMap Rf.cells)∧Keeps W w'):=Lib.hid (fun m hmem W ao cap b o hk hsl=>concat_any m.x.left m.x.right m.al m.cl m.bl m.ol m.ar m.cr m.br m.or_ ao cap b o W ((hmt.left m hmem).keeps hk) ((hmt.right m hmem).keeps hk) hsl (hs m hmem).1 (hs m hmem).2)
 have HOK:Hid (∀ m∈ms,∀ r∈m.x.left ++ m.x.right,r.Ok):=Lib.hid (fun m hmem r hr=>(List.mem_append.1 hr).elim ((H.mok m hmem).1 r) ((H.mok m hmem).2 r))
 have HSZ:=Lib.hid hs
 have HID:=Lib.hid hid
 have hrg:=box_range w bv 36
 have hk0:Keeps w (w.alloc (.cells bv.toArray 36)):=(Keeps.refl w).alloc _
 obtain ⟨W1,hW1⟩:∃ W1,w.alloc (.cells bv.toArray 36)=W1:=⟨_,rfl⟩
 have hz1:w.heap.size+1=W1.heap.size:=by rw [← hW1];simp
 rw [hW1] at hrg hk0
 have HW1:=Lib.hid hk0
 have g24:=hrg 24 _ hb24
 simp only [Nat.zero_add] at g24
 have HRG:Hid (∀ W,Keeps W1 W→W.rangeAt w.heap.size 0 bv):=Lib.hid (fun W hk=>range_keeps hrg hk)
 have hzg0:=World.block_lt_of_cell? _ _ g24
 clear H hmt hrg hk0 hs hid hb24
 go_enter Tryz.func40,Tryz.ntmps40
 go_upto_region 1 with fail
 (try rw [hW1])
 (try rw [hz1])
 clear hW1
 go_wp2_with fail
 go_loopw [14] (fun vi wr=>∃ k:Nat,k≤ms.length∧vi=.int .i64 k∧Hid (∀ j,j < k→okM es ms j=true)∧Hid (Keeps W1 wr∧VMap intK wr W1.heap.size k (seenI ((ms.take k).map (fun q=>q.x.id)))∧VMap refK wr (W1.heap.size+1) (800 * k) (setM (memB (refsOf (ms.take k)))))) (fun vi _=>ms.length - (intOf vi).toNat)
 case atStart=>
  refine ⟨0,Nat.zero_le _,rfl,Lib.hid (fun j hj=>absurd hj (Nat.not_lt_zero _)),Lib.hid ⟨((Keeps.refl W1).alloc _).alloc _,?_,?_⟩⟩
  ·exact (VMap.made intK W1).alloc _
  ·have:=VMap.made refK (W1.alloc (.map #[] 0))
   rw [World.size_alloc] at this
   rw [show setM (memB (refsOf (ms.take 0)))=fun _=>none from by funext d;simp [setM,memB,refsOf]]
   exact this
 case round=>
  obtain ⟨k,hk,rfl,HN,HW⟩:=hrel
  have g24':=HW.out.1.cell g24
  have hzg:=World.block_lt_of_cell? _ _ g24'
  have hzm:=HW.out.2.2.lt
  by_cases hlt:k < ms.length
  ·have hr:=HMT.out.row.keeps (HW1.out.trans HW.out.1)
   have hix:=Sl.at hr Tryz.underlying33 Tryz.sizeOf48 k hlt
   have hmem:=List.getElem_mem hlt
   have hokl:=okM_at (es:=es) hlt
   have hrs:=refsOf_snoc hlt
   have htk:=take_snoc ms k hlt
   obtain ⟨m,hmk⟩:∃ m,ms[k]=m:=⟨_,rfl⟩
   have c0:=hr.cell MV.len k hlt 0 (.int .i64 m.x.id) (by rw [hmk];rfl)
   have c1:=hr.cell MV.len k hlt 1 (.slice m.al m.x.left.length m.cl) (by rw [hmk];rfl)
   have c2:=hr.cell MV.len k hlt 2 (.slice m.ar m.x.right.length m.cr) (by rw [hmk];rfl)
   have c3:=hr.cell MV.len k hlt 3 (.int .i64 m.x.state) (by rw [hmk];rfl)
   rw [Nat.add_zero] at c0
   have hzr:=World.block_lt_of_cell? _ _ c0
   rw [hmk] at hmem hokl hrs htk
   have HTK:=Lib.hid htk
   have HRS:=Lib.hid hrs
   have HMI:=Lib.hid (HID.out m hmem)
   have HV:=Lib.hid (HV0.out m hmem)
   have HCC:=Lib.hid (HC0.out m hmem)
   have HRO:=Lib.hid (HOK.out m hmem)
   have HLN:Hid ((m.x.left ++ m.x.right).length≤800):=Lib.hid (by rw [List.length_append];have:=HSZ.out m hmem;omega)
   clear hr hmk hmem hrs htk
   by_cases h1:m.x.id < 1
   ·have e1:decide (m.x.id < 1)=true:=decide_eq_true h1
    have HBD:=Lib.hid (allMB_bad hlt (hokl.trans (by rw [decide_eq_false (by omega:¬ 1≤m.x.id)];rfl)))
    clear hokl h1
    go_wp2_with fail
    go_ret
    rw [HBD.out]
    exact ⟨rfl,HW1.out.trans (HW.out.1.alloc _)⟩
   have e1:decide (m.x.id < 1)=false:=decide_eq_false h1
   rw [decide_eq_true (by omega:1≤m.x.id)] at hokl
   clear h1
   obtain ⟨s,hs⟩:∃ s,(ms.take k).any (fun q=>q.x.id == m.x.id)=s:=⟨_,rfl⟩
   rw [hs] at hokl
   have hlk:(Instr.lookup 140 (.map (some W1.heap.size)) (.int .i64 m.x.id) false).run Tryz.prog (wr.alloc (.cells #[.int .i64 m.x.id,.slice m.al m.x.left.length m.cl,.slice m.ar m.x.right.length m.cr,.int .i64 m.x.state] 48))=.ok (.bool s) (wr.alloc (.cells #[.int .i64 m.x.id,.slice m.al m.x.left.length m.cl,.slice m.ar m.x.right.length m.cr,.int .i64 m.x.state] 48)):=by
    have:=(HW.out.2.1.alloc (.cells #[.int .i64 m.x.id,.slice m.al m.x.left.length m.cl,.slice m.ar m.x.right.length m.cr,.int .i64 m.x.state] 48)).look Tryz.underlying140 (fun w=>Tryz.zeroValue4 w) (a:=m.x.id) HMI.out _ rfl
    have h2:((ms.take k).map (fun q=>q.x.id)).contains m.x.id=s:=by
     rw [← hs,List.contains_eq_any_beq,List.any_map]
     congr 1
     funext q
     simp only [Function.comp]
     rw [Bool.eq_iff_iff,beq_iff_eq,beq_iff_eq]
     exact eq_comm
    rw [seenI_get',h2] at this
    exact this
   clear hs
   cases s with
   | true=>
    have HBD:=Lib.hid (allMB_bad hlt (hokl.trans rfl))
    clear hokl
    go_wp2_with fail
    go_ret
    rw [HBD.out]
    exact ⟨rfl,HW1.out.trans (HW.out.1.alloc _)⟩
   | false=>
    cases hv:((sidesR es m.x).2.2 == 0) with
    | false=>
     rw [hv] at HV hokl
     have HBD:=Lib.hid (allMB_bad hlt (hokl.trans rfl))
     clear hokl hv
     go_wp2_with (first | (refine wpList_rowG 36 _ rfl rfl w.heap.size bv _ rfl (HRG.out _ (HW.out.1.alloc _)) Tryz.underlying36 rfl (by rw [HBL.out];exact booksSize) ?_) | (go_at_call 69;(refine (HV.out _ (HW1.out.trans (HW.out.1.alloc _))).mono ?_);rintro e2 w2 ⟨rfl,hk2⟩;have x0:=hk2.cell (p:=⟨wr.heap.size,0,none⟩) (v:=.int .i64 m.x.id) (by go_simp);have x1:=hk2.cell (p:=⟨wr.heap.size,1,none⟩) (v:=.slice m.al m.x.left.length m.cl) (by go_simp);have x2:=hk2.cell (p:=⟨wr.heap.size,2,none⟩) (v:=.slice m.ar m.x.right.length m.cr) (by go_simp);have hz2:=World.block_lt_of_cell? _ _ x0;have K2:=Lib.hid ((HW.out.1.alloc (.cells #[.int .i64 m.x.id,.slice m.al m.x.left.length m.cl,.slice m.ar m.x.right.length m.cr,.int .i64 m.x.state] 48)).trans hk2);have HI2:=Lib.hid ((HW.out.2.1.alloc (.cells #[.int .i64 m.x.id,.slice m.al m.x.left.length m.cl,.slice m.ar m.x.right.length m.cr,.int .i64 m.x.state] 48)).keeps hk2);have HR2:=Lib.hid ((HW.out.2.2.alloc (.cells #[.int .i64 m.x.id,.slice m.al m.x.left.length m.cl,.slice m.ar m.x.right.length m.cr,.int .i64 m.x.state] 48)).keeps hk2);clear hk2))
     go_ret
     rw [HBD.out]
     exact ⟨rfl,HW1.out.trans K2.out⟩
    | true=>
     have HND:=Lib.hid (sidesR_ok (by simpa using hv)).2
     rw [hv] at HV hokl
     obtain ⟨l,hl⟩:∃ l,m.x.left ++ m.x.right=l:=⟨_,rfl⟩
     rw [hl] at HCC HRO HLN HRS hokl HND
     have HOKL:Hid (okM es ms k=l.all (fun r=>!memB (refsOf (ms.take k)) r)):=Lib.hid (hokl.trans (by simp))
     clear hokl hv hl
     go_wp2_with (first | (refine wpList_rowG 36 _ rfl rfl w.heap.size bv _ rfl (HRG.out _ (HW.out.1.alloc _)) Tryz.underlying36 rfl (by rw [HBL.out];exact booksSize) ?_) | (go_at_call 69;(refine (HV.out _ (HW1.out.trans (HW.out.1.alloc _))).mono ?_);rintro e2 w2 ⟨rfl,hk2⟩;have x0:=hk2.cell (p:=⟨wr.heap.size,0,none⟩) (v:=.int .i64 m.x.id) (by go_simp);have x1:=hk2.cell (p:=⟨wr.heap.size,1,none⟩) (v:=.slice m.al m.x.left.length m.cl) (by go_simp);have x2:=hk2.cell (p:=⟨wr.heap.size,2,none⟩) (v:=.slice m.ar m.x.right.length m.cr) (by go_simp);have hz2:=World.block_lt_of_cell? _ _ x0;have K2:=Lib.hid ((HW.out.1.alloc (.cells #[.int .i64 m.x.id,.slice m.al m.x.left.length m.cl,.slice m.ar m.x.right.length m.cr,.int .i64 m.x.state] 48)).trans hk2);have HI2:=Lib.hid ((HW.out.2.1.alloc (.cells #[.int .i64 m.x.id,.slice m.al m.x.left.length m.cl,.slice m.ar m.x.right.length m.cr,.int .i64 m.x.state] 48)).keeps hk2);have HR2:=Lib.hid ((HW.out.2.2.alloc (.cells #[.int .i64 m.x.id,.slice m.al m.x.left.length m.cl,.slice m.ar m.x.right.length m.cr,.int .i64 m.x.state] 48)).keeps hk2);clear hk2) | (refine wpList_vstore (K:=intK) rfl _ _ _ 140 rfl Tryz.underlying140 W1.heap.size k rfl HI2.out (by unfold maxLen;omega) m.x.id HMI.out rfl (.bool true) rfl (seenI ((ms.take (k+1)).map (fun q=>q.x.id))) (by rw [HTK.out,List.map_append];exact (seenI_snoc _ _).1) (fun d _ hd=>by rw [HTK.out,List.map_append];exact (seenI_snoc _ _).2 d hd) ?_;intro w3 hm3 hg3;have K3:Hid (Keeps W1 w3):=Lib.hid (Below.grown K2.out hg3 K2.out.size (fun j hj=>by cases hj;exact Nat.le_refl _));have HI3:=Lib.hid hm3;have HR3:=Lib.hid (HR2.out.kept hg3 (by simp));have y1:=hg3.cell x1 (by intro e;simp at e;omega);have y2:=hg3.cell x2 (by intro e;simp at e;omega);have hz3:=World.block_lt_of_cell? _ _ y1;clear hm3 hg3 x0 x1 x2 hz2) | (go_at_call 70;have hlit:=Sl.lit w3 1 2 [.slice m.al m.x.left.length m.cl,.slice m.ar m.x.right.length m.cr] 46 rfl (by omega);(refine (HCC.out _ _ _ _ _ (HW1.out.trans (K3.out.alloc _)) hlit).mono ?_);rintro e5 w5 ⟨v5,rfl,ho5,hk5⟩;clear hlit;obtain ⟨ao5,cap5,b5,rfl,hs5⟩:=Sl.own ho5;have hb5:=own_block ho5 hs5;simp only [World.size_alloc] at hb5;have hcap5:=Sl.cap hs5;have hle5:=Sl.le hs5;have HS5:=Lib.hid hs5;have K5:=Lib.hid ((K3.out.alloc (.cells #[.slice m.al m.x.left.length m.cl,.slice m.ar m.x.right.length m.cr] 46)).trans hk5);have HI5:=Lib.hid ((HI3.out.alloc (.cells #[.slice m.al m.x.left.length m.cl,.slice m.ar m.x.right.length m.cr] 46)).keeps hk5);have HR5:=Lib.hid ((HR3.out.alloc (.cells #[.slice m.al m.x.left.length m.cl,.slice m.ar m.x.right.length m.cr] 46)).keeps hk5);have hzz:=HR3.out.lt;clear ho5 hs5 hk5))
     have hbb:0 < l.length→W1.heap.size+1 < b5:=fun h=>by have:=hb5 h;omega
     have HBB:=Lib.hid hbb
     clear hbb hb5 y1 y2
     have hln:=HLN.out
     go_loopw [43] (fun vj w8=>∃ j:Nat,j≤l.length∧vj=.int .i64 j∧Hid (∀ i (hi:i < l.length),i < j→memB (refsOf (ms.take k)) l[i]=false)∧Hid (Keeps W1 w8∧w5.grownBy w8 (some (W1.heap.size+1))∧VMap refK w8 (W1.heap.size+1) (800 * k+j) (setM (memB (refsOf (ms.take k) ++ l.take j))))) (fun vj _=>l.length - (intOf vj).toNat)
     case atStart=>exact ⟨0,Nat.zero_le _,rfl,Lib.hid (fun i _ h=>absurd h (Nat.not_lt_zero _)),Lib.hid ⟨K5.out,World.grownBy.refl _ _,by rw [List.take_zero,List.append_nil];exact HR5.out⟩⟩
     case round=>
      obtain ⟨j,hj,rfl,HN8,HW8⟩:=hrel
      by_cases hjl:j < l.length
      ·have hr:=Sl.grownR HS5.out HW8.out.2.1 (by intro e;have:=HBB.out (by omega);simp at e;omega)
       have hix:=Sl.at hr Tryz.underlying46 Tryz.sizeOf51 j hjl
       have hr:Recs wr 2 Rf.cells ao5 l cap5 b5 0:=hr
       obtain ⟨r,hrj⟩:∃ r,l[j]=r:=⟨_,rfl⟩
       have c0':=hr.cell Rf.len j hjl 0 (.int .i64 r.e) (by rw [hrj];rfl)
       have c1':=hr.cell Rf.len j hjl 1 (.int .i64 r.l) (by rw [hrj];rfl)
       simp only [Nat.add_zero,Nat.zero_add] at c0' c1' hix
       have HRJ:=Lib.hid hrj
       have HR1:Hid r.Ok:=Lib.hid (by rw [← hrj];exact HRO.out _ (List.getElem_mem ..))
       have HTJ:Hid (l.take (j+1)=l.take j ++ [r]):=Lib.hid (by rw [take_snoc _ _ hjl,hrj])
       have hzw:=World.block_lt_of_cell? _ _ c0'
       clear hr hrj
       obtain ⟨s,hs⟩:∃ s,memB (refsOf (ms.take k) ++ l.take j) r=s:=⟨_,rfl⟩
       have hlk8:(Instr.lookup 141 (.map (some (W1.heap.size+1))) (.agg #[.int .i64 r.e,.int .i64 r.l]) false).run Tryz.prog (wr.alloc (.cells #[.int .i64 r.e,.int .i64 r.l] 51))=.ok (.bool s) (wr.alloc (.cells #[.int .i64 r.e,.int .i64 r.l] 51)):=by
        have:=(HW8.out.2.2.alloc (.cells #[.int .i64 r.e,.int .i64 r.l] 51)).look Tryz.underlying141 (fun w=>Tryz.zeroValue4 w) (a:=r) HR1.out _ rfl
        rw [setM_get,hs] at this
        exact this
       have HS:=Lib.hid hs
       clear hs
       cases s with
       | true=>
        have HBD:=Lib.hid (allMB_bad hlt (HOKL.out.trans (by
         rw [List.all_eq_false]
         refine ⟨r,by rw [← HRJ.out];exact List.getElem_mem ..,?_⟩
         have h:=of_decide_eq_true HS.out
         rcases List.mem_append.1 h with h | h
         ·simp [memB,h]
         ·exact absurd HND.out (nodup_take_bad hjl (by rw [HRJ.out];exact h)))))
        go_wp2_with fail
        go_ret
        rw [HBD.out]
        exact ⟨rfl,HW1.out.trans (HW8.out.1.alloc _)⟩
       | false=>
        have HN9:Hid (∀ i (hi:i < l.length),i < j+1→memB (refsOf (ms.take k)) l[i]=false):=Lib.hid (fun i hi hij=>by
         by_cases e:i < j
         ·exact HN8.out i hi e
         ·obtain rfl:i=j:=by omega
          rw [HRJ.out]
          have h:=of_decide_eq_false HS.out
          exact decide_eq_false (fun c=>h (List.mem_append_left _ c)))
        go_wp2_with (refine wpList_vstore (K:=refK) rfl _ _ _ 141 rfl Tryz.underlying141 (W1.heap.size+1) (800 * k+j) rfl (HW8.out.2.2.alloc _) (by unfold maxLen;omega) r HR1.out rfl (.bool true) rfl (setM (memB (refsOf (ms.take k) ++ l.take (j+1)))) (by rw [HTJ.out,← List.append_assoc];exact (memB_snoc _ _).1) (fun d _ hd=>by rw [HTJ.out,← List.append_assoc];exact (memB_snoc _ _).2 d hd) ?_;intro w9 hm9 hg9;have HX:Hid (Keeps W1 w9∧w5.grownBy w9 (some (W1.heap.size+1))∧VMap refK w9 (W1.heap.size+1) (800 * k+(j+1)) (setM (memB (refsOf (ms.take k) ++ l.take (j+1))))):=Lib.hid ⟨Below.grown (HW8.out.1.alloc _) hg9 (HW8.out.1.alloc _).size (fun q hq=>by cases hq;exact Nat.le_succ _),(HW8.out.2.1.trans (World.grownBy_alloc _ _ _)).trans hg9,hm9⟩;clear hm9 hg9)
        go_roundw
        case rel=>exact ⟨j+1,by omega,by go_num,HN9,HX⟩
        case measure=>simp [intOf];omega
      ·have HOE:Hid (okM es ms k=true):=Lib.hid (HOKL.out.trans (by
        rw [List.all_eq_true]
        intro r hr
        obtain ⟨i,hi,rfl⟩:=List.getElem_of_mem hr
        rw [HN8.out i hi (by omega)];rfl))
       have HXK:Hid (Keeps W1 wr∧VMap intK wr W1.heap.size (k+1) (seenI ((ms.take (k+1)).map (fun q=>q.x.id)))∧VMap refK wr (W1.heap.size+1) (800 * (k+1)) (setM (memB (refsOf (ms.take (k+1)))))):=Lib.hid ⟨HW8.out.1,HI5.out.kept HW8.out.2.1 (by simp),by
        have h:=HW8.out.2.2
        rw [List.take_of_length_le (l:=l) (i:=j) (by omega)] at h
        rw [HRS.out]
        exact h.mono (by omega)⟩
       go_wp2_with fail
       go_roundw
       case rel=>exact ⟨k+1,by omega,by go_num,Lib.hid (fun i hi=>by by_cases h:i < k;(exact HN.out i h);(rw [show i=k from by omega];exact HOE.out)),HXK⟩
       case measure=>simp [intOf];omega
  ·have HGD:=Lib.hid (allMB_good (es:=es) (ms:=ms) (fun j hj=>HN.out j (by omega)))
   by_cases h3:ms.length≤300
   ·have e3:decide ((ms.length:Int)≤300)=true:=decide_eq_true (by omega)
    rw [decide_eq_true h3] at HGD
    clear h3
    go_wp2_with fail
    go_ret
    rw [HGD.out]
    exact ⟨rfl,HW1.out.trans HW.out.1⟩
   ·have e3:decide ((ms.length:Int)≤300)=false:=decide_eq_false (by omega)
    rw [decide_eq_false h3] at HGD
    clear h3
    go_wp2_with fail
    go_ret
    rw [HGD.out]
    exact ⟨rfl,HW1.out.trans HW.out.1⟩
end Go.Proofs.YtoaidbhiciaeaaaGreat

end
section
namespace Go.Proofs.YtoaidbhiciaeaaaGreat
open Go.RowKit
structure Itm where
 ref:Rf
 ent:Int
 acc:Int
 ptn:Int
 date:Int
 amt:Int
def Itm.cells (i:Itm):List Value:=[.int .i64 i.ref.e,.int .i64 i.ref.l,.int .i64 i.ent,.int .i64 i.acc,.int .i64 i.ptn,.int .i64 i.date,.int .i64 i.amt]
def Itm.val (i:Itm):Value:=.agg #[.int .i64 i.ref.e,.int .i64 i.ref.l,.int .i64 i.ent,.int .i64 i.acc,.int .i64 i.ptn,.int .i64 i.date,.int .i64 i.amt]
def Itm.zero:Itm:=⟨⟨0,0⟩,0,0,0,0,0⟩
theorem Itm.len (i:Itm):i.cells.length=7:=rfl
theorem Itm.one (i:Itm):∀ v∈i.cells,v.oneCell'=true:=by
 intro v hv
 simp only [Itm.cells,List.mem_cons,List.not_mem_nil,or_false] at hv
 rcases hv with rfl | rfl | rfl | rfl | rfl | rfl | rfl <;> rfl
theorem itmSize:(Tryz.prog.info? 53).map (·.size)=some 7:=by kernel_rfl
def findI (l:List Itm) (r:Rf):Option Itm:=l.find? (fun x=>decide (x.ref=r))
def itemsM (l:List Itm):Rf→Option Value:=fun r=>(findI l r).map Itm.val
theorem findI_append (l:List Itm) (x:Itm) (r:Rf):findI (l ++ [x]) r=match findI l r with | some y=>some y | none=>if x.ref=r then some x else none:=by
 unfold findI
 rw [List.find?_append]
 cases l.find? (fun x=>decide (x.ref=r)) with
 | some y=>rfl
 | none=>
  by_cases h:x.ref=r <;> simp [List.find?,h]
theorem itemsM_old {l:List Itm} {x y:Itm} (h:findI l x.ref=some y):itemsM (l ++ [x])=itemsM l:=by
 funext r
 unfold itemsM
 rw [findI_append]
 cases hr:findI l r with
 | some z=>rfl
 | none=>
  have:x.ref≠r:=fun e=>by rw [e] at h;rw [h] at hr;cases hr
  simp [this]
theorem itemsM_new {l:List Itm} {x:Itm} (h:findI l x.ref=none):itemsM (l ++ [x]) x.ref=some x.val∧∀ d,d≠x.ref→itemsM (l ++ [x]) d=itemsM l d:=by
 unfold itemsM
 refine ⟨by rw [findI_append,h];simp,fun d hd=>?_⟩
 rw [findI_append]
 cases hr:findI l d with
 | some z=>rfl
 | none=>simp [Ne.symm hd]
def errI (g:Grp) (es:List JV) (hs:List Hol) (ms:List MV) (p:Int):Int:=if grpB g=true∧hvalidB (g.ents.length:Int) hs=true∧allMB es ms=true then (if p < 0∨g.n≤p then 2 else 0) else 1
def dayA (g:Grp) (p:Int):Int:=(yrF g.y g.m g.n p).1
def dayB (g:Grp) (p:Int):Int:=(lasF g.y g.m g.n p).1
theorem grpB_cal {g:Grp} (h:grpB g=true):calB g.y g.m g.n=true:=by
 unfold grpB at h
 simp only [Bool.and_eq_true] at h
 exact h.2.1
theorem chk_grp {g:Grp} (h:grpB g=true) (p:Int):chkF g.y g.m g.n p=if p < 0∨g.n≤p then 2 else 0:=by unfold chkF;rw [if_pos (grpB_cal h)]
structure BkG (w:World) (bv:List Value) (g:Grp) (es:List JV) (hs:List Hol) (ms:List MV):Prop where
 bks:Bks w bv es ms
 grp:∃ aoC capC bC oC aoE capE bE oE,(∀ (j:Nat) (v:Value),(g.cells (.slice aoC g.chart.length capC) (.slice aoE g.ents.length capE))[j]?=some v→bv[j]?=some v)∧Accs w aoC g.chart capC bC oC∧EntsV w aoE g.ents capE bE oE
 hol:∃ ao cap b o,bv[23]?=some (.slice ao hs.length cap)∧Hols w ao hs cap b o
theorem BkG.keeps {w w':World} {bv:List Value} {g:Grp} {es:List JV} {hs:List Hol} {ms:List MV} (h:BkG w bv g es hs ms) (k:Keeps w w'):BkG w' bv g es hs ms:=by
 obtain ⟨aoC,capC,bC,oC,aoE,capE,bE,oE,h1,h2,h3⟩:=h.grp
 obtain ⟨ao,cap,b,o,h4,h5⟩:=h.hol
 exact ⟨h.bks.keeps k,⟨aoC,capC,bC,oC,aoE,capE,bE,oE,h1,h2.keeps k,h3.keeps k⟩,⟨ao,cap,b,o,h4,h5.keeps k⟩⟩
structure SmallB (g:Grp) (es:List JV) (hs:List Hol) (ms:List MV) (items:List Itm):Prop where
 gok:g.Ok
 lines:∀ e∈es,e.x.lines.length≤8
 hlen:hs.length≤900
 hok:∀ x∈hs,x.Ok
 sides:∀ m∈ms,m.x.left.length≤400∧m.x.right.length≤400
 ids:∀ m∈ms,I64 m.x.id
 mlen:ms.length≤1000
 ilen:items.length≤1000
 iref:∀ x∈items,x.ref.Ok
def finC (bv:List Value) (mb:Nat) (a b:Int):List Value:=bv ++ [.map (some mb),.int .i64 a,.int .i64 b]
structure Fin (w:World) (B mb:Nat) (bv:List Value) (items:List Itm) (a b:Int):Prop where
 box:w.rangeAt B 0 (finC bv mb a b)
 map:∃ n,n≤1000∧VMap refK w mb n (itemsM items)
theorem Fin.keeps {w w':World} {B mb:Nat} {bv:List Value} {items:List Itm} {a b:Int} (h:Fin w B mb bv items a b) (k:Keeps w w'):Fin w' B mb bv items a b:=by
 obtain ⟨n,hn,hm⟩:=h.map
 exact ⟨range_keeps h.box k,n,hn,hm.keeps k⟩
theorem list27 {bv:List Value} (h:bv.length=27):∃ b0 b1 b2 b3 b4 b5 b6 b7 b8 b9 b10 b11 b12 b13 b14 b15 b16 b17 b18 b19 b20 b21 b22 b23 b24 b25 b26,bv=[b0,b1,b2,b3,b4,b5,b6,b7,b8,b9,b10,b11,b12,b13,b14,b15,b16,b17,b18,b19,b20,b21,b22,b23,b24,b25,b26]:=by
 match bv,h with
 | [b0,b1,b2,b3,b4,b5,b6,b7,b8,b9,b10,b11,b12,b13,b14,b15,b16,b17,b18,b19,b20,b21,b22,b23,b24,b25,b26],_=>exact ⟨_,_,_,_,_,_,_,_,_,_,_,_,_,_,_,_,_,_,_,_,_,_,_,_,_,_,_,rfl⟩
set_option maxRecDepth 100000 in
theorem run_finder (bv:List Value) (h:bv.length=27) (mb:Nat) (a b:Int) (w:World):(Instr.build 110 #[(0,.agg bv.toArray),(1,.map (some mb)),(2,.int .i64 a),(3,.int .i64 b)]).run Tryz.prog w=.ok (.agg (finC bv mb a b).toArray) w:=by
 obtain ⟨b0,b1,b2,b3,b4,b5,b6,b7,b8,b9,b10,b11,b12,b13,b14,b15,b16,b17,b18,b19,b20,b21,b22,b23,b24,b25,b26,rfl⟩:=list27 h
 exact run_build w _ _ _ (by kernel_rfl)
theorem wpList_bfin {w:World} {ops:Array Oper} {rest:List Oper} {op:Oper} {a:Act} {Q:Exit→Act→World→Prop} (hgd:op.guard=none) (s t x y:Operand) (ho:op.op=Op.build 110 #[(0,s),(1,t),(2,x),(3,y)])
  (bv:List Value) (hbl:bv.length=27) (mb:Nat) (A B:Int) (hs:a.eval s=.agg bv.toArray) (ht:a.eval t=.map (some mb)) (hx:a.eval x=.int .i64 A) (hy:a.eval y=.int .i64 B)
  (h:wpList Tryz.prog ops Q rest (a.put op.dst (.agg (finC bv mb A B).toArray)) w):wpList Tryz.prog ops Q (op :: rest) a w:=by
 refine wpList_plain hgd fun KK hKK=>?_
 have hr:=run_finder bv hbl mb A B w
 unfold Oper.wp
 simp only [execOp,ho]
 simp [hs,ht,hx,hy,hr,Result.andThen]
 exact hKK _ _ h
end Go.Proofs.YtoaidbhiciaeaaaGreat

end
section
namespace Go.Proofs.YtoaidbhiciaeaaaGreat
open Go.RowKit
def closedL (l:List Rol) (c:Int):Bool:=l.any (fun r=>r.code == c && !r.mapped)
theorem closedL_eq {l:List Rol} (h:(l.map Rol.code).Nodup) (c:Int):closedP l c=closedL l c:=by
 unfold closedP closedL
 cases hf:l.reverse.find? (fun r=>r.code == c) with
 | none=>
  simp only
  symm
  rw [List.any_eq_false]
  intro r hr
  have:=List.find?_eq_none.1 hf r (List.mem_reverse.2 hr)
  simp only [Bool.not_eq_true] at this
  simp [this]
 | some r=>
  simp only
  have hr:=List.mem_reverse.1 (List.mem_of_find?_eq_some hf)
  have hc:r.code=c:=by have:=List.find?_some hf;simpa using this
  rw [Bool.eq_iff_iff,List.any_eq_true]
  constructor
  ·intro hm
   exact ⟨r,hr,by rw [hc];simpa using hm⟩
  ·rintro ⟨q,hq,he⟩
   rw [Bool.and_eq_true,beq_iff_eq] at he
   obtain ⟨i,hi,rfl⟩:=List.getElem_of_mem hr
   obtain ⟨j,hj,rfl⟩:=List.getElem_of_mem hq
   have hij:i=j:=by
    have e:(l.map Rol.code)[i]'(by simpa using hi)=(l.map Rol.code)[j]'(by simpa using hj):=by
     rw [List.getElem_map,List.getElem_map,hc,he.1]
    exact (List.getElem_inj h).1 e
   subst hij
   exact he.2
theorem roles_nodup {g:Grp} (h:accB g=true):((rolesL g.rl).map Rol.code).Nodup:=by
 unfold accB at h
 rw [Bool.and_eq_true,Bool.and_eq_true] at h
 have h2:=List.all_eq_true.1 h.2.2
 refine List.pairwise_map.2 (List.pairwise_iff_getElem.2 fun i j hi hj hij he=>?_)
 have:=h2 j (List.mem_range.2 hj)
 rw [okRole_at hj] at this
 simp only [Bool.and_eq_true,Bool.not_eq_true',List.any_eq_false,beq_iff_eq] at this
 exact this.2.1 _ (List.mem_take_iff_getElem.2 ⟨i,by omega,rfl⟩) he
def entR (g:Grp) (e:Ent):Bool:=nameB e.name && (curB e.cur && (mvalidB e g.chart && !(e.links.any (fun l=>closedL (rolesL g.rl) l.to))))
theorem entR_eq {g:Grp} (h:accB g=true) (e:Ent):entR g e=entB g e:=by
 unfold entR entB
 have:(fun l:Lnk=>closedP (rolesL g.rl) l.to)=fun l=>closedL (rolesL g.rl) l.to:=by funext l;exact closedL_eq (roles_nodup h) _
 rw [this]
def booksR (g:Grp):Bool:=curB g.cur && (calB g.y g.m g.n && accB g)
def fnm (l:List Ent) (nm:ByteArray):Nat:=l.findIdx (fun q=>decide (q.name=nm))
theorem fnm_le {l:List Ent} {k:Nat} (hk:k < l.length):fnm l l[k].name≤k:=by
 unfold fnm
 rcases Nat.lt_or_ge k (l.findIdx (fun q=>decide (q.name=l[k].name))) with h | h
 ·have:=List.not_of_lt_findIdx h
  simp at this
 ·exact h
theorem fnm_eq {l:List Ent} {k:Nat} (hk:k < l.length):(fnm l l[k].name=k)↔((l.take k).any (fun q=>decide (q.name=l[k].name)))=false:=by
 constructor
 ·intro h
  rw [List.any_eq_false]
  intro q hq
  obtain ⟨j,hj,rfl⟩:=List.mem_take_iff_getElem.1 hq
  have:=List.not_of_lt_findIdx (p:=fun q:Ent=>decide (q.name=l[k].name)) (xs:=l) (i:=j) (by unfold fnm at h;omega)
  simpa using this
 ·intro h
  have hle:=fnm_le hk
  rcases Nat.lt_or_ge (fnm l l[k].name) k with hlt | hge
  ·rw [List.any_eq_false] at h
   have hl:fnm l l[k].name < l.length:=by omega
   have h2:=List.findIdx_getElem (p:=fun q:Ent=>decide (q.name=l[k].name)) (xs:=l) (w:=hl)
   exact absurd h2 (h _ (List.mem_take_iff_getElem.2 ⟨fnm l l[k].name,by omega,rfl⟩))
  ·omega
theorem okEnt_ref {g:Grp} (ha:accB g=true) {k:Nat} (hk:k < g.ents.length):okEnt g k=(decide (fnm g.ents g.ents[k].name=k) && entR g g.ents[k]):=by
 rw [okEnt_at hk,entR_eq ha]
 congr 1
 rw [Bool.eq_iff_iff,decide_eq_true_eq,fnm_eq hk]
 simp
theorem grpB_books {g:Grp} (h:booksR g=false):grpB g=false:=by
 unfold booksR at h
 unfold grpB
 cases h1:curB g.cur <;> cases h2:calB g.y g.m g.n <;> cases h3:accB g <;> simp_all
theorem booksR_all {g:Grp} (h:booksR g=true):curB g.cur=true∧calB g.y g.m g.n=true∧accB g=true:=by
 unfold booksR at h
 simp only [Bool.and_eq_true] at h
 exact ⟨h.1,h.2.1,h.2.2⟩
end Go.Proofs.YtoaidbhiciaeaaaGreat

end
