/- Walks and plain facts that the claim rests on (RFnd, RFul, RIts). No condition. -/
import Derived.Test.YtoaidbhiciaeaaaGreatPo47
import Derived.Test.YtoaidbhiciaeaaaGreatPo37
import Derived.Test.YtoaidbhiciaeaaaGreatPo36
import Derived.Test.YtoaidbhiciaeaaaGreatPo31
set_option linter.unusedSimpArgs false
set_option linter.unusedVariables false
set_option maxHeartbeats 16000000
section
namespace Go.Proofs.YtoaidbhiciaeaaaGreat
open Go.RowKit
theorem findI_take {l:List Itm} {r:Rf} {k:Nat} (hk:k < l.length) {x:Itm} (hx:l[k]=x) (h:∀ q∈l.take k,q.ref≠r) (he:x.ref=r):findI l r=some x:=by
 unfold findI
 rw [← List.take_append_drop k l,List.find?_append,List.find?_eq_none.2 (fun q hq=>by simpa using h q hq),List.drop_eq_getElem_cons hk,hx]
 simp [he]
theorem findI_none {l:List Itm} {r:Rf} (h:∀ q∈l,q.ref≠r):findI l r=none:=List.find?_eq_none.2 (fun q hq=>by simpa using h q hq)
set_option maxRecDepth 100000 in
theorem ritem_any (items:List Itm) (r:Rf) (ao:Option Addr) (cap b o:Nat) (w:World) (H:Recs w 7 Itm.cells ao items cap b o) :
  Calls Tryz.prog 35 #[.slice ao items.length cap,.agg #[.int .i64 r.e,.int .i64 r.l]] w fun e w'=>e=.returned (.tuple #[.agg (itemAt items r).cells.toArray,.bool (findI items r).isSome])∧Keeps w w':=by
 have hcap:=Sl.cap H
 have hle:=Sl.le H
 have HH:=Lib.hid H
 have b0:((w.alloc (.cells #[.int .i64 r.e,.int .i64 r.l] 51)).alloc (.cells Itm.zero.cells.toArray 53)).cell? ⟨w.heap.size,0,none⟩=some (.int .i64 r.e):=by go_simp
 have b1:((w.alloc (.cells #[.int .i64 r.e,.int .i64 r.l] 51)).alloc (.cells Itm.zero.cells.toArray 53)).cell? ⟨w.heap.size,1,none⟩=some (.int .i64 r.l):=by go_simp
 have hrb:RowB ((w.alloc (.cells #[.int .i64 r.e,.int .i64 r.l] 51)).alloc (.cells Itm.zero.cells.toArray 53)) (w.heap.size+1) 53 Itm.zero.cells:=by
  have:=RowB.new (w.alloc (.cells #[.int .i64 r.e,.int .i64 r.l] 51)) 53 Itm.zero.cells
  rw [World.size_alloc] at this
  exact this
 have hk0:Keeps w ((w.alloc (.cells #[.int .i64 r.e,.int .i64 r.l] 51)).alloc (.cells Itm.zero.cells.toArray 53)):=((Keeps.refl w).alloc _).alloc _
 obtain ⟨W1,hW1⟩:∃ W1,(w.alloc (.cells #[.int .i64 r.e,.int .i64 r.l] 51)).alloc (.cells #[.int .i64 0,.int .i64 0,.int .i64 0,.int .i64 0,.int .i64 0,.int .i64 0,.int .i64 0] 53)=W1:=⟨_,rfl⟩
 have hW2:(w.alloc (.cells #[.int .i64 r.e,.int .i64 r.l] 51)).alloc (.cells Itm.zero.cells.toArray 53)=W1:=hW1
 rw [hW2] at b0 b1 hk0 hrb
 clear hW2
 have HK0:=Lib.hid hk0
 have HRB:=Lib.hid hrb
 clear H hk0 hrb
 go_enter Tryz.func35,Tryz.ntmps35
 go_wp2_with fail
 try rw [hW1]
 clear hW1
 go_loopw [6] (fun vi wr=>∃ k:Nat,k≤items.length∧vi=.int .i64 k∧Hid (Keeps W1 wr)∧Hid (∀ q∈items.take k,q.ref≠r)) (fun vi _=>items.length - (intOf vi).toNat)
 case atStart=>exact ⟨0,Nat.zero_le _,rfl,Lib.hid (Keeps.refl W1),Lib.hid (by simp)⟩
 case round=>
  obtain ⟨k,hk,rfl,HW,HZ⟩:=hrel
  have HTH:Hid (wr.there (w.heap.size+1) 0 7):=Lib.hid (rowB_thereI (HRB.out.keeps HW.out))
  by_cases hlt:k < items.length
  ·have hr:=HH.out.keeps (HK0.out.trans HW.out)
   have hix:=Sl.at hr Tryz.underlying37 Tryz.sizeOf53 k hlt
   obtain ⟨x,hxk⟩:∃ x,items[k]=x:=⟨_,rfl⟩
   have c0:=hr.cell Itm.len k hlt 0 (.int .i64 x.ref.e) (by rw [hxk];rfl)
   have c1:=hr.cell Itm.len k hlt 1 (.int .i64 x.ref.l) (by rw [hxk];rfl)
   have c2:=hr.cell Itm.len k hlt 2 (.int .i64 x.ent) (by rw [hxk];rfl)
   have c3:=hr.cell Itm.len k hlt 3 (.int .i64 x.acc) (by rw [hxk];rfl)
   have c4:=hr.cell Itm.len k hlt 4 (.int .i64 x.ptn) (by rw [hxk];rfl)
   have c5:=hr.cell Itm.len k hlt 5 (.int .i64 x.date) (by rw [hxk];rfl)
   have c6:=hr.cell Itm.len k hlt 6 (.int .i64 x.amt) (by rw [hxk];rfl)
   rw [Nat.add_zero] at c0
   replace b0:=HW.out.cell b0
   replace b1:=HW.out.cell b1
   have heq:=eqlRef x.ref r
   have HXK:=Lib.hid hxk
   clear hr hxk
   by_cases he:x.ref=r
   ·have HF:=Lib.hid (findI_take hlt HXK.out HZ.out he)
    rw [decide_eq_true he] at heq
    clear he
    go_upto_region 4 with fail
    go_quiet (fail)
    have hkq:Keeps wr (wr.drewN nq):=(Keeps.refl wr).drewN nq
    have hth:(wr.drewN nq).there (w.heap.size+1) 0 7:=rowB_thereI (HRB.out.keeps (HW.out.trans hkq))
    replace c0:=hkq.cell c0
    replace c1:=hkq.cell c1
    replace c2:=hkq.cell c2
    replace c3:=hkq.cell c3
    replace c4:=hkq.cell c4
    replace c5:=hkq.cell c5
    replace c6:=hkq.cell c6
    obtain ⟨wq,hwq⟩:∃ wq,wr.drewN nq=wq:=⟨_,rfl⟩
    rw [hwq] at c0 c1 c2 c3 c4 c5 c6 hth hkq ⊢
    have HTQ:=Lib.hid hth
    have HKQ:=Lib.hid (HW.out.trans hkq)
    clear hwq hth hkq b0 b1
    go_wp2_with (refine wpList_store_mid rfl 53 _ _ rfl (w.heap.size+1) 0 x.cells.toArray rfl rfl HTQ.out itmSize (all_oneCell_toArray (Itm.one x)) ?_)
    refine bodyPost_ret (results_row_tmp rfl _ _ (w.heap.size+1) x.cells _ rfl (World.rangeAt_setCells_same _ _ _ _ HTQ.out) Tryz.underlying53 rfl itmSize) rfl ?_
    unfold itemAt
    rw [HF.out]
    exact ⟨rfl,keeps_setCellsP (Nat.le_succ _) _ _ _ (HK0.out.trans HKQ.out)⟩
   ·have HZ2:Hid (∀ q∈items.take (k+1),q.ref≠r):=Lib.hid (fun q hq=>by
     rw [take_snoc _ k hlt,HXK.out,List.mem_append,List.mem_singleton] at hq
     rcases hq with hq | rfl
     ·exact HZ.out q hq
     ·exact he)
    rw [decide_eq_false he] at heq
    clear he
    go_upto_region 4 with fail
    go_quiet (fail)
    go_wp2_with fail
    go_roundw
    case rel=>exact ⟨k+1,by omega,by go_num,Lib.hid (HW.out.drewN _),HZ2⟩
    case measure=>simp [intOf];omega
  ·have HF:=Lib.hid (findI_none (l:=items) (r:=r) (fun q hq=>HZ.out q (by rw [List.take_of_length_le (by omega)];exact hq)))
   clear b0 b1
   go_wp2_with (refine wpList_store_mid rfl 53 _ _ rfl (w.heap.size+1) 0 Itm.zero.cells.toArray rfl rfl HTH.out itmSize (all_oneCell_toArray (Itm.one Itm.zero)) ?_)
   refine bodyPost_ret (results_row_tmp rfl _ _ (w.heap.size+1) Itm.zero.cells _ rfl (World.rangeAt_setCells_same _ _ _ _ HTH.out) Tryz.underlying53 rfl itmSize) rfl ?_
   unfold itemAt
   rw [HF.out]
   exact ⟨rfl,keeps_setCellsP (Nat.le_succ _) _ _ _ (HK0.out.trans HW.out)⟩
end Go.Proofs.YtoaidbhiciaeaaaGreat

end
section
namespace Go.Proofs.YtoaidbhiciaeaaaGreat
open Go.RowKit
set_option maxRecDepth 100000 in
theorem rfull_any (bv:List Value) (g:Grp) (es:List JV) (hs:List Hol) (ms:List MV) (en d:Int) (w:World) (H:BkG w bv g es hs ms) (hl:hs.length≤900) :
  Calls Tryz.prog 34 #[.agg bv.toArray,.int .i64 en,.int .i64 d] w fun e w'=>e=.returned (.bool (fullB g hs d en))∧Keeps w w':=by
 obtain ⟨aoC,capC,bC,oC,aoE,capE,bE,oE,hgc,hC,hE⟩:=H.grp
 obtain ⟨aoH,capH,bH,oH,hb23,hH⟩:=H.hol
 obtain ⟨⟨x,er⟩,hx⟩:∃ r,curC g hs d en=r:=⟨_,rfl⟩
 have hfb:fullB g hs d en=(er == 0 && x.mth == 3):=by unfold fullB;rw [hx]
 have HCU:Hid (∀ W,Keeps w W→Calls Tryz.prog 59 #[.agg #[.string g.cur,.int .i64 g.y,.int .i64 g.m,.int .i64 g.n,.slice aoC g.chart.length capC,.int .i64 g.rl.r0,.int .i64 g.rl.r1,.int .i64 g.rl.r2,.int .i64 g.rl.r3,.int .i64 g.rl.r4,.int .i64 g.rl.r5,.int .i64 g.rl.r6,.int .i64 g.rl.r7,.int .i64 g.rl.r8,.int .i64 g.rl.r9,.int .i64 g.rl.r10,.int .i64 g.rl.r11,.int .i64 g.rl.r12,.int .i64 g.rl.r13,.int .i64 g.rl.r14,.slice aoE g.ents.length capE],.slice aoH hs.length capH,.int .i64 en,.int .i64 d] W fun e w'=>e=.returned (.tuple #[.agg #[.int .i64 x.frm,.int .i64 x.to,.int .i64 x.mth],.int .i64 er])∧Keeps W w'):=Lib.hid (fun W hk=>by
  have:=currR_any g hs d en aoC capC aoE capE bE oE aoH capH bH oH W (hE.keeps hk) (hH.keeps hk) hl
  rw [hx] at this
  exact this)
 have HFB:=Lib.hid hfb
 have hrg:=box_range w bv 36
 have hk0:Keeps w (w.alloc (.cells bv.toArray 36)):=(Keeps.refl w).alloc _
 obtain ⟨W1,hW1⟩:∃ W1,w.alloc (.cells bv.toArray 36)=W1:=⟨_,rfl⟩
 rw [hW1] at hrg hk0
 have c23:=hrg 23 _ hb23
 rw [Nat.zero_add] at c23
 have HRG:Hid (W1.rangeAt w.heap.size 0 (g.cells (.slice aoC g.chart.length capC) (.slice aoE g.ents.length capE))):=Lib.hid (fun j v hv=>hrg j v (hgc j v hv))
 have HK0:=Lib.hid hk0
 clear H hC hE hH hgc hb23 hrg hx hfb hk0
 go_enter Tryz.func34,Tryz.ntmps34
 go_upto_region 1 with fail
 try rw [hW1]
 clear hW1
 by_cases h0:er=0
 ·subst h0
  go_wp2_with (first | (refine wpList_rowG 29 _ rfl rfl w.heap.size (g.cells (.slice aoC g.chart.length capC) (.slice aoE g.ents.length capE)) _ rfl HRG.out Tryz.underlying29 rfl groupSize ?_) | (go_at_call 59;(refine (HCU.out _ HK0.out).mono ?_);rintro e2 w2 ⟨rfl,hk2⟩;have K2:=Lib.hid (HK0.out.trans hk2);clear hk2))
  go_ret
  exact ⟨by rw [HFB.out];rfl,K2.out.alloc _⟩
 ·have e0:(er == 0)=false:=by simpa using h0
  go_wp2_with (first | (refine wpList_rowG 29 _ rfl rfl w.heap.size (g.cells (.slice aoC g.chart.length capC) (.slice aoE g.ents.length capE)) _ rfl HRG.out Tryz.underlying29 rfl groupSize ?_) | (go_at_call 59;(refine (HCU.out _ HK0.out).mono ?_);rintro e2 w2 ⟨rfl,hk2⟩;have K2:=Lib.hid (HK0.out.trans hk2);clear hk2))
  go_ret
  exact ⟨by rw [HFB.out,e0];rfl,K2.out.alloc _⟩
end Go.Proofs.YtoaidbhiciaeaaaGreat

end
section
namespace Go.Proofs.YtoaidbhiciaeaaaGreat
open Go.RowKit
def IO (w:World) (q:Bool) (own:List Itm) (e:Ending) (w':World):Prop:=∃ v,e=.returned (.tuple #[v,.bool q])∧Keeps w w'∧(q=true→w'.ownsRow w.heap.size 53 7 v own.length (own.flatMap Itm.cells))∧(q=false→v=.slice none 0 0)
set_option maxRecDepth 100000 in
theorem ritems_any (bv:List Value) (g:Grp) (es:List JV) (hs:List Hol) (ms:List MV) (items:List Itm) (p:Int) (m:Mt) (ao:Option Addr) (cap bI oI:Nat) (aoL:Option Addr) (capL bL oL:Nat) (aoR:Option Addr) (capR bR oR:Nat) (w:World) (H:BkG w bv g es hs ms) (SM:SmallB g es hs ms items)
  (HI:Recs w 7 Itm.cells ao items cap bI oI) (HL:Recs w 2 Rf.cells aoL m.left capL bL oL) (HR:Recs w 2 Rf.cells aoR m.right capR bR oR) (h1:m.left.length≤400) (h2:m.right.length≤400) :
  Calls Tryz.prog 15 #[.agg bv.toArray,.slice ao items.length cap,.agg #[.int .i64 m.id,.slice aoL m.left.length capL,.slice aoR m.right.length capR,.int .i64 m.state],.int .i64 p] w (IO w (eliB g es hs items (dayB g p) m) (eliM es items m).own):=by
 obtain ⟨aoC,capC,bC,oC,aoE,capE,bE,oE,hgc,_,_⟩:=H.grp
 have HBL:=Lib.hid H.bks.len
 obtain ⟨d,hd⟩:∃ d,dayB g p=d:=⟨_,rfl⟩
 obtain ⟨le,hle0⟩:∃ q,(lasF g.y g.m g.n p).2=q:=⟨_,rfl⟩
 have HLA:Hid (∀ W,Calls Tryz.prog 33 #[.agg #[.int .i64 g.y,.int .i64 g.m,.int .i64 g.n],.int .i64 p] W fun r w'=>r=.returned (.tuple #[.int .i64 d,.int .i64 le])∧Keeps W w'):=Lib.hid (fun W=>by
  have:=lasR_any g.y g.m g.n p W
  rw [← hd,← hle0]
  exact this)
 rw [hd]
 have hk0:Keeps w ((w.alloc (.cells bv.toArray 36)).alloc (.cells #[.int .i64 m.id,.slice aoL m.left.length capL,.slice aoR m.right.length capR,.int .i64 m.state] 48)):=((Keeps.refl w).alloc _).alloc _
 have hrg:=range_keeps (box_range w bv 36) ((Keeps.refl _).alloc (.cells #[.int .i64 m.id,.slice aoL m.left.length capL,.slice aoR m.right.length capR,.int .i64 m.state] 48))
 have hb3:RowB ((w.alloc (.cells bv.toArray 36)).alloc (.cells #[.int .i64 m.id,.slice aoL m.left.length capL,.slice aoR m.right.length capR,.int .i64 m.state] 48)) (w.heap.size+1) 48 [.int .i64 m.id,.slice aoL m.left.length capL,.slice aoR m.right.length capR,.int .i64 m.state]:=by
  have:=RowB.new (w.alloc (.cells bv.toArray 36)) 48 [.int .i64 m.id,.slice aoL m.left.length capL,.slice aoR m.right.length capR,.int .i64 m.state]
  rw [World.size_alloc] at this
  exact this
 have hz2:w.heap.size+1+1=((w.alloc (.cells bv.toArray 36)).alloc (.cells #[.int .i64 m.id,.slice aoL m.left.length capL,.slice aoR m.right.length capR,.int .i64 m.state] 48)).heap.size:=by simp
 obtain ⟨W2,hW2⟩:∃ W2,(w.alloc (.cells bv.toArray 36)).alloc (.cells #[.int .i64 m.id,.slice aoL m.left.length capL,.slice aoR m.right.length capR,.int .i64 m.state] 48)=W2:=⟨_,rfl⟩
 rw [hW2] at hk0 hb3 hrg hz2
 have HK2:=Lib.hid hk0
 have HRG:Hid (∀ W,Keeps W2 W→W.rangeAt w.heap.size 0 bv):=Lib.hid (fun W hk=>range_keeps hrg hk)
 have HCX:Hid (∀ W,Keeps W2 W→W.cell? ⟨w.heap.size,1,none⟩=some (.int .i64 g.y)∧W.cell? ⟨w.heap.size,2,none⟩=some (.int .i64 g.m)∧W.cell? ⟨w.heap.size,3,none⟩=some (.int .i64 g.n)∧W.cell? ⟨w.heap.size+1,0,none⟩=some (.int .i64 m.id)∧W.cell? ⟨w.heap.size+1,1,none⟩=some (.slice aoL m.left.length capL)∧W.cell? ⟨w.heap.size+1,2,none⟩=some (.slice aoR m.right.length capR)∧W.cell? ⟨w.heap.size+1,3,none⟩=some (.int .i64 m.state)):=Lib.hid (fun W hW=>by
  have hr:=range_keeps hrg hW
  have q1:=hr 1 _ (hgc 1 _ rfl)
  have q2:=hr 2 _ (hgc 2 _ rfl)
  have q3:=hr 3 _ (hgc 3 _ rfl)
  simp only [Nat.zero_add] at q1 q2 q3
  exact ⟨q1,q2,q3,hW.cell (hb3.cell 0 _ rfl),hW.cell (hb3.cell 1 _ rfl),hW.cell (hb3.cell 2 _ rfl),hW.cell (hb3.cell 3 _ rfl)⟩)
 have HF0:Hid (∀ W,Keeps W2 W→W.cell? ⟨w.heap.size,12,none⟩=some (.int .i64 g.rl.r7)):=Lib.hid (fun W hW=>by
  have q:=range_keeps hrg hW 12 _ (hgc 12 _ rfl)
  simp only [Nat.zero_add] at q
  exact q)
 obtain ⟨⟨x,y,er⟩,hx⟩:∃ r,sidesR es m=r:=⟨_,rfl⟩
 have HSD:Hid (∀ W,Keeps W2 W→Calls Tryz.prog 32 #[.agg bv.toArray,.agg #[.int .i64 m.id,.slice aoL m.left.length capL,.slice aoR m.right.length capR,.int .i64 m.state]] W fun e w'=>e=.returned (.tuple #[.int .i64 x,.int .i64 y,.int .i64 er])∧Keeps W w'):=Lib.hid (fun W hk=>by
  have:=rsides_any bv es ms m aoL capL bL oL aoR capR bR oR W (H.bks.keeps (hk0.trans hk)) SM.lines (HL.keeps (hk0.trans hk)) (HR.keeps (hk0.trans hk))
  rw [hx] at this
  exact this)
 obtain ⟨q1,hq1⟩:∃ q,fullB g hs d x=q:=⟨_,rfl⟩
 obtain ⟨q2,hq2⟩:∃ q,fullB g hs d y=q:=⟨_,rfl⟩
 have HFL:Hid (∀ W,Keeps W2 W→Calls Tryz.prog 34 #[.agg bv.toArray,.int .i64 x,.int .i64 d] W fun e w'=>e=.returned (.bool q1)∧Keeps W w'):=Lib.hid (fun W hk=>by
  have:=rfull_any bv g es hs ms x d W (H.keeps (hk0.trans hk)) SM.hlen
  rw [hq1] at this
  exact this)
 have HFR:Hid (∀ W,Keeps W2 W→Calls Tryz.prog 34 #[.agg bv.toArray,.int .i64 y,.int .i64 d] W fun e w'=>e=.returned (.bool q2)∧Keeps W w'):=Lib.hid (fun W hk=>by
  have:=rfull_any bv g es hs ms y d W (H.keeps (hk0.trans hk)) SM.hlen
  rw [hq2] at this
  exact this)
 have HFI0:Hid (∀ (r:Rf) W,Keeps w W→Calls Tryz.prog 35 #[.slice ao items.length cap,.agg #[.int .i64 r.e,.int .i64 r.l]] W fun e w'=>e=.returned (.tuple #[.agg (itemAt items r).cells.toArray,.bool (findI items r).isSome])∧Keeps W w'):=Lib.hid (fun r W hk=>ritem_any items r ao cap bI oI W (HI.keeps hk))
 have hel:eliB g es hs items d m=(er == 0 && (m.state == 4 && (q1 && (q2 && (m.left ++ m.right).all (refOk g.rl.r7 items d))))):=by unfold eliB;rw [hx];simp only [hq1,hq2]
 have HEM:Hid ((eliM es items m).own=(m.left ++ m.right).map (itemAt items)):=Lib.hid rfl
 have HLZ:Hid (∀ W,Keeps W2 W→Recs W 2 Rf.cells aoL m.left capL bL oL):=Lib.hid (fun W hW=>HL.keeps (hk0.trans hW))
 have HRZ:Hid (∀ W,Keeps W2 W→Recs W 2 Rf.cells aoR m.right capR bR oR):=Lib.hid (fun W hW=>HR.keeps (hk0.trans hW))
 obtain ⟨z1,z2,z3,m0,m1,m2,m3⟩:=HCX.out _ (Keeps.refl _)
 clear H SM HI HL HR hk0 hb3 hx hq1 hq2 hrg hgc hd hle0
 go_enter Tryz.func15,Tryz.ntmps15;go_upto_region 1 with fail;(try rw [hW2]);(try rw [hz2]);clear hW2
 go_upto_region 3 with (first | (refine wpList_rowG 36 _ rfl rfl w.heap.size bv _ rfl (HRG.out _ (K1.out)) Tryz.underlying36 rfl (by rw [HBL.out];exact booksSize) ?_) | (go_at_call 33;(refine (HLA.out _).mono ?_);rintro e1 w1 ⟨rfl,hk1⟩;have K1:Hid (Keeps W2 w1):=Lib.hid hk1;clear z1 z2 z3 m0 m1 m2 m3;obtain ⟨z1,z2,z3,m0,m1,m2,m3⟩:=HCX.out _ K1.out;have hza:=World.block_lt_of_cell? _ _ m0;clear hk1) | (go_at_call 32;(refine (HSD.out _ K1.out).mono ?_);rintro e2 w3 ⟨rfl,hk3⟩;have K3:Hid (Keeps W2 w3):=Lib.hid (K1.out.trans hk3);clear z1 z2 z3 m0 m1 m2 m3 hza;obtain ⟨z1,z2,z3,m0,m1,m2,m3⟩:=HCX.out _ K3.out;have hza:=World.block_lt_of_cell? _ _ m0;clear hk3))
 by_cases c1:er=0
 ·have e1:(er != 0)=false:=by simp [c1]
  by_cases c2:m.state=4
  ·have e2:(m.state != 4)=false:=by simp [c2]
   cases q1 with
   | false=>
    have HQ:Hid (eliB g es hs items d m=false):=Lib.hid (by rw [hel,c1];simp)
    clear hel c2 c1
    go_wp2_with (first | (refine wpList_rowG 36 _ rfl rfl w.heap.size bv _ rfl (HRG.out _ (K3.out)) Tryz.underlying36 rfl (by rw [HBL.out];exact booksSize) ?_) | (refine wpList_rowG 36 _ rfl rfl w.heap.size bv _ rfl (HRG.out _ (KL.out)) Tryz.underlying36 rfl (by rw [HBL.out];exact booksSize) ?_) | (go_at_call 34;guard_hyp HFL:_;(refine (HFL.out _ K3.out).mono ?_);rintro e3 wl ⟨rfl,hkl⟩;have KL:Hid (Keeps W2 wl):=Lib.hid (K3.out.trans hkl);clear HFL hkl z1 z2 z3 m0 m1 m2 m3 hza;obtain ⟨z1,z2,z3,m0,m1,m2,m3⟩:=HCX.out _ KL.out;have hza:=World.block_lt_of_cell? _ _ m0) | (go_at_call 34;guard_hyp KL:_;(refine (HFR.out _ KL.out).mono ?_);rintro e4 wz ⟨rfl,hkz⟩;have K5:Hid (Keeps W2 wz):=Lib.hid (KL.out.trans hkz);clear hkz z1 z2 z3 m0 m1 m2 m3 hza;obtain ⟨z1,z2,z3,m0,m1,m2,m3⟩:=HCX.out _ K5.out;have hza:=World.block_lt_of_cell? _ _ m0))
    refine bodyPost_ret (results_tmp2 rfl _ _ _) rfl ?_
    exact ⟨_,by rw [HQ.out];rfl,HK2.out.trans KL.out,(fun h=>absurd (HQ.out.symm.trans h) (by decide)),fun _=>rfl⟩
   | true=>
   cases q2 with
   | false=>
    have HQ:Hid (eliB g es hs items d m=false):=Lib.hid (by rw [hel,c1];simp)
    clear hel c2 c1
    go_wp2_with (first | (refine wpList_rowG 36 _ rfl rfl w.heap.size bv _ rfl (HRG.out _ (K3.out)) Tryz.underlying36 rfl (by rw [HBL.out];exact booksSize) ?_) | (refine wpList_rowG 36 _ rfl rfl w.heap.size bv _ rfl (HRG.out _ (KL.out)) Tryz.underlying36 rfl (by rw [HBL.out];exact booksSize) ?_) | (go_at_call 34;guard_hyp HFL:_;(refine (HFL.out _ K3.out).mono ?_);rintro e3 wl ⟨rfl,hkl⟩;have KL:Hid (Keeps W2 wl):=Lib.hid (K3.out.trans hkl);clear HFL hkl z1 z2 z3 m0 m1 m2 m3 hza;obtain ⟨z1,z2,z3,m0,m1,m2,m3⟩:=HCX.out _ KL.out;have hza:=World.block_lt_of_cell? _ _ m0) | (go_at_call 34;guard_hyp KL:_;(refine (HFR.out _ KL.out).mono ?_);rintro e4 wz ⟨rfl,hkz⟩;have K5:Hid (Keeps W2 wz):=Lib.hid (KL.out.trans hkz);clear hkz z1 z2 z3 m0 m1 m2 m3 hza;obtain ⟨z1,z2,z3,m0,m1,m2,m3⟩:=HCX.out _ K5.out;have hza:=World.block_lt_of_cell? _ _ m0))
    refine bodyPost_ret (results_tmp2 rfl _ _ _) rfl ?_
    exact ⟨_,by rw [HQ.out];rfl,HK2.out.trans K5.out,(fun h=>absurd (HQ.out.symm.trans h) (by decide)),fun _=>rfl⟩
   | true=>
   obtain ⟨l,hl⟩:∃ l,m.left ++ m.right=l:=⟨_,rfl⟩
   have HLN:Hid (l.length=m.left.length+m.right.length):=Lib.hid (by rw [← hl,List.length_append])
   have hl8:l.length≤800:=by have:=HLN.out;omega
   rw [hl] at hel HEM
   have HEL:Hid (eliB g es hs items d m=l.all (refOk g.rl.r7 items d)):=Lib.hid (by rw [hel,c2,c1];rfl)
   have HL:=Lib.hid hl
   clear hel c2 c1 hl
   go_upto_region 5 with (first | (refine wpList_rowG 36 _ rfl rfl w.heap.size bv _ rfl (HRG.out _ (K3.out)) Tryz.underlying36 rfl (by rw [HBL.out];exact booksSize) ?_) | (refine wpList_rowG 36 _ rfl rfl w.heap.size bv _ rfl (HRG.out _ (KL.out)) Tryz.underlying36 rfl (by rw [HBL.out];exact booksSize) ?_) | (go_at_call 34;guard_hyp HFL:_;(refine (HFL.out _ K3.out).mono ?_);rintro e3 wl ⟨rfl,hkl⟩;have KL:Hid (Keeps W2 wl):=Lib.hid (K3.out.trans hkl);clear HFL hkl z1 z2 z3 m0 m1 m2 m3 hza;obtain ⟨z1,z2,z3,m0,m1,m2,m3⟩:=HCX.out _ KL.out;have hza:=World.block_lt_of_cell? _ _ m0) | (go_at_call 34;guard_hyp KL:_;(refine (HFR.out _ KL.out).mono ?_);rintro e4 wz ⟨rfl,hkz⟩;have K5:Hid (Keeps W2 wz):=Lib.hid (KL.out.trans hkz);clear hkz z1 z2 z3 m0 m1 m2 m3 hza;obtain ⟨z1,z2,z3,m0,m1,m2,m3⟩:=HCX.out _ K5.out;have hza:=World.block_lt_of_cell? _ _ m0))
   have HB9:Hid (∀ W,Keeps wz W→W.cell? ⟨w.heap.size+1,1,none⟩=some (.slice aoL m.left.length capL)∧W.cell? ⟨w.heap.size+1,2,none⟩=some (.slice aoR m.right.length capR)):=Lib.hid (fun W hW=>⟨hW.cell m1,hW.cell m2⟩)
   clear z1 z2 z3 m0 m1 m2 m3 hza
   go_region_held3 (fun w'=>w'.cell? ⟨w.heap.size+1,1,none⟩=some (.slice aoL m.left.length capL)∧w'.cell? ⟨w.heap.size+1,2,none⟩=some (.slice aoR m.right.length capR))
    (first | exact HB9.out _ hk2 | exact HB9.out _ hk1 | exact HB9.out _ (Keeps.refl wz).drew | exact HB9.out _ ((Keeps.refl wz).alloc _).drew)
    (first | (guard_hyp hown1:_;refine step_all_raw elemRf rfl (.tmp 59) (.tmp 61) rfl v1 m.left.length _ rfl wz.heap.size hown1 hz1 aoR m.right.length capR bR oR (m.right.flatMap Rf.cells) rfl (HRZ.out _ (K5.out.trans hk1)) (ones_rf _) (by omega) (by omega) ?_;intro v2 w9 hown2 hgrow2 hat2;have hk2:Keeps wz w9:=Below.grown hk1 hgrow2 hk1.size (fun j hj=>(hown1.lt j hj).1)) | (refine step_all_raw elemRf rfl (.tmp 56) (.tmp 58) rfl _ 0 [] rfl wz.heap.size (own_emptyx (by simp) (by simp)) (by simp) aoL m.left.length capL bL oL (m.left.flatMap Rf.cells) rfl (HLZ.out _ (K5.out.trans ((Keeps.refl wz).alloc _).drew)) (ones_rf _) (by omega) (by omega) ?_;intro v1 w1' hown1 hgrow1 hat1;rw [Nat.zero_add,List.nil_append] at hown1;have hk1:Keeps wz w1':=Below.grown ((Keeps.refl wz).alloc _).drew hgrow1 (by simp) (fun j hj=>by simp [Act.eval,Value.ownBlock] at hj;omega);have hz1:=hk1.size))
   all_goals
    obtain ⟨aoA,capA,bA,rfl,hsA⟩:=Sl.own hown2
    have hcapA:=Sl.cap hsA
    have hleA:=Sl.le hsA
    have hSA:Recs w9 2 Rf.cells aoA l capA bA 0:=by
     rw [← List.flatMap_append,HL.out,← HLN.out] at hsA
     exact hsA
    have HSA:=Lib.hid hSA
    have HKZ:Hid (Keeps W2 w9):=Lib.hid (K5.out.trans hk2)
    have HK9:Hid (Keeps w w9):=Lib.hid (HK2.out.trans HKZ.out)
    have HF12:Hid (∀ W,Keeps w9 W→W.cell? ⟨w.heap.size,12,none⟩=some (.int .i64 g.rl.r7)):=Lib.hid (fun W hW=>HF0.out W (HKZ.out.trans hW))
    rw [← HLN.out] at hleA
    simp only [← HLN.out]
    clear hown1 hgrow1 hat1 hk1 hz1 hown2 hgrow2 hat2 hk2 hsA hSA
    go_wp2_with fail
    go_loopw [16,17] (fun vo vi wr=>∃ k:Nat,k≤l.length∧vi=.int .i64 k∧Hid (Keeps w9 wr∧wr.ownsRow w9.heap.size 53 7 vo k (((l.take k).map (itemAt items)).flatMap Itm.cells))∧Hid (∀ r∈l.take k,refOk g.rl.r7 items d r=true)) (fun _ vi _=>l.length - (intOf vi).toNat)
    case atStart=>exact ⟨0,Nat.zero_le _,rfl,Lib.hid ⟨Keeps.refl _,by rw [List.take_zero];exact World.ownsRow_nil _ _ _ _⟩,Lib.hid (by simp)⟩
    case round=>
     obtain ⟨k,hk,rfl,HW,HOKS⟩:=hrel
     by_cases hlt:k < l.length
     ·have hr:=HSA.out.keeps HW.out.1
      have hix:=Sl.at hr Tryz.underlying46 Tryz.sizeOf51 k hlt
      obtain ⟨r,hrk⟩:∃ r,l[k]=r:=⟨_,rfl⟩
      have c0:=hr.cell Rf.len k hlt 0 (.int .i64 r.e) (by rw [hrk];rfl)
      have c1:=hr.cell Rf.len k hlt 1 (.int .i64 r.l) (by rw [hrk];rfl)
      simp only [Nat.add_zero,Nat.zero_add] at c0 c1 hix
      have HRK:=Lib.hid hrk
      clear hr hrk
      have hfi:=HFI0.out r
      obtain ⟨y,hy⟩:∃ y,itemAt items r=y:=⟨_,rfl⟩
      obtain ⟨q,hq⟩:∃ q,(findI items r).isSome=q:=⟨_,rfl⟩
      rw [hy,hq] at hfi
      have HFI:Hid (∀ W,Keeps w W→Calls Tryz.prog 35 #[.slice ao items.length cap,.agg #[.int .i64 r.e,.int .i64 r.l]] W fun e w'=>e=.returned (.tuple #[.agg #[.int .i64 y.ref.e,.int .i64 y.ref.l,.int .i64 y.ent,.int .i64 y.acc,.int .i64 y.ptn,.int .i64 y.date,.int .i64 y.amt],.bool q])∧Keeps W w'):=Lib.hid hfi
      have HQI:=Lib.hid hq
      have HYI:=Lib.hid hy
      clear hy hq hfi
      cases q with
      | false=>
       have HQ:Hid (eliB g es hs items d m=false):=Lib.hid (by rw [HEL.out];exact all_bad hlt (by rw [HRK.out];exact refOk_1 HQI.out))
       go_wp2_with (go_at_call 35;(refine (HFI.out _ (HK9.out.trans HW.out.1)).mono ?_);rintro e7 w7 ⟨rfl,hk7⟩;have K7:Hid (Keeps wr w7):=Lib.hid hk7;have f12:=HF12.out _ (HW.out.1.trans hk7);have hzf:=World.block_lt_of_cell? _ _ f12;clear hk7)
       refine bodyPost_ret (results_tmp2 rfl _ _ _) rfl ?_
       exact ⟨_,by rw [HQ.out];rfl,HK2.out.trans (HKZ.out.trans (HW.out.1.trans (K7.out.alloc _))),(fun h=>absurd (HQ.out.symm.trans h) (by decide)),fun _=>rfl⟩
      | true=>
      by_cases g1:d < y.date
      ·have g1':decide (d < y.date)=true:=decide_eq_true g1
       have HG1:=Lib.hid g1
       clear g1
       have HQ:Hid (eliB g es hs items d m=false):=Lib.hid (by rw [HEL.out];exact all_bad hlt (by rw [HRK.out];exact refOk_2 (by rw [HYI.out];exact HG1.out)))
       go_wp2_with (go_at_call 35;(refine (HFI.out _ (HK9.out.trans HW.out.1)).mono ?_);rintro e7 w7 ⟨rfl,hk7⟩;have K7:Hid (Keeps wr w7):=Lib.hid hk7;have f12:=HF12.out _ (HW.out.1.trans hk7);have hzf:=World.block_lt_of_cell? _ _ f12;clear hk7)
       refine bodyPost_ret (results_tmp2 rfl _ _ _) rfl ?_
       exact ⟨_,by rw [HQ.out];rfl,HK2.out.trans (HKZ.out.trans (HW.out.1.trans (K7.out.alloc _))),(fun h=>absurd (HQ.out.symm.trans h) (by decide)),fun _=>rfl⟩
      have g1':decide (d < y.date)=false:=decide_eq_false g1
      have HG1:=Lib.hid g1
      clear g1
      by_cases g2:y.acc=g.rl.r7
      ·have g2':(y.acc == g.rl.r7)=true:=by simpa using g2
       have HG2:=Lib.hid g2
       clear g2
       have HQ:Hid (eliB g es hs items d m=false):=Lib.hid (by rw [HEL.out];exact all_bad hlt (by rw [HRK.out];exact refOk_3 (by rw [HYI.out];exact HG2.out)))
       go_wp2_with (go_at_call 35;(refine (HFI.out _ (HK9.out.trans HW.out.1)).mono ?_);rintro e7 w7 ⟨rfl,hk7⟩;have K7:Hid (Keeps wr w7):=Lib.hid hk7;have f12:=HF12.out _ (HW.out.1.trans hk7);have hzf:=World.block_lt_of_cell? _ _ f12;clear hk7)
       refine bodyPost_ret (results_tmp2 rfl _ _ _) rfl ?_
       exact ⟨_,by rw [HQ.out];rfl,HK2.out.trans (HKZ.out.trans (HW.out.1.trans (K7.out.alloc _))),(fun h=>absurd (HQ.out.symm.trans h) (by decide)),fun _=>rfl⟩
      have g2':(y.acc == g.rl.r7)=false:=by simpa using g2
      have HG2:=Lib.hid g2
      clear g2
      have HOK:Hid (∀ q∈l.take (k+1),refOk g.rl.r7 items d q=true):=Lib.hid (fun q hq=>by
       rw [take_snoc _ k hlt,HRK.out] at hq
       rcases List.mem_append.1 hq with h | h
       ·exact HOKS.out q h
       ·rw [List.mem_singleton] at h
        subst h
        exact refOk_4 HQI.out (by rw [HYI.out];exact HG1.out) (by rw [HYI.out];exact HG2.out))
      go_wp2_with (first | (go_at_call 35;(refine (HFI.out _ (HK9.out.trans HW.out.1)).mono ?_);rintro e7 w7 ⟨rfl,hk7⟩;have K7:Hid (Keeps wr w7):=Lib.hid hk7;have f12:=HF12.out _ (HW.out.1.trans hk7);have hzf:=World.block_lt_of_cell? _ _ f12;clear hk7) | (at_builtin;(refine wpList_appx elemItm rfl (.tmp 95) (.tmp 97) rfl w9 _ k _ rfl w9.heap.size (own_keepsH HW.out.2 (K7.out.alloc _)) (HW.out.1.trans (K7.out.alloc _)) (HW.out.1.trans (K7.out.alloc _)).size y.cells _ 1 rfl (by simp) rfl (Itm.one y) (by omega) (by omega) ?_);intro v' w' hown' hb' hsz';have HX:Hid (Keeps w9 w'∧w'.ownsRow w9.heap.size 53 7 v' (k+1) (((l.take (k+1)).map (itemAt items)).flatMap Itm.cells)):=Lib.hid ⟨hb',by rw [flat_snocI l items k hlt r HRK.out y HYI.out];exact hown'⟩;clear hown' hb' hsz'))
      go_roundw
      case rel=>exact ⟨k+1,by omega,by go_num,HX,HOK⟩
      case measure=>simp [intOf];omega
     ·obtain rfl:k=l.length:=by omega
      have HQ:Hid (eliB g es hs items d m=true):=Lib.hid (by
       rw [HEL.out,List.all_eq_true]
       have:=HOKS.out
       rwa [List.take_length] at this)
      have HOW:=HW.out.2
      rw [List.take_length] at HOW
      have HOX:=Lib.hid HOW
      clear HOW
      go_wp2_with fail
      refine bodyPost_ret (results_tmp2 rfl _ _ _) rfl ?_
      exact ⟨_,by rw [HQ.out];rfl,HK9.out.trans HW.out.1,fun _=>by rw [HEM.out,List.length_map];exact own_mono HOX.out HK9.out.size,fun h=>absurd (HQ.out.symm.trans h) (by decide)⟩
  ·have e2:(m.state != 4)=true:=by simp [c2]
   have HQ:Hid (eliB g es hs items d m=false):=Lib.hid (by rw [hel];simp [c2])
   clear hel c2 c1
   go_wp2_with (first | (refine wpList_rowG 36 _ rfl rfl w.heap.size bv _ rfl (HRG.out _ (K3.out)) Tryz.underlying36 rfl (by rw [HBL.out];exact booksSize) ?_) | (refine wpList_rowG 36 _ rfl rfl w.heap.size bv _ rfl (HRG.out _ (KL.out)) Tryz.underlying36 rfl (by rw [HBL.out];exact booksSize) ?_) | (go_at_call 34;guard_hyp HFL:_;(refine (HFL.out _ K3.out).mono ?_);rintro e3 wl ⟨rfl,hkl⟩;have KL:Hid (Keeps W2 wl):=Lib.hid (K3.out.trans hkl);clear HFL hkl z1 z2 z3 m0 m1 m2 m3 hza;obtain ⟨z1,z2,z3,m0,m1,m2,m3⟩:=HCX.out _ KL.out;have hza:=World.block_lt_of_cell? _ _ m0) | (go_at_call 34;guard_hyp KL:_;(refine (HFR.out _ KL.out).mono ?_);rintro e4 wz ⟨rfl,hkz⟩;have K5:Hid (Keeps W2 wz):=Lib.hid (KL.out.trans hkz);clear hkz z1 z2 z3 m0 m1 m2 m3 hza;obtain ⟨z1,z2,z3,m0,m1,m2,m3⟩:=HCX.out _ K5.out;have hza:=World.block_lt_of_cell? _ _ m0))
   refine bodyPost_ret (results_tmp2 rfl _ _ _) rfl ?_
   exact ⟨_,by rw [HQ.out];rfl,HK2.out.trans K3.out,(fun h=>absurd (HQ.out.symm.trans h) (by decide)),fun _=>rfl⟩
 ·have e1:(er != 0)=true:=by simp [c1]
  have HQ:Hid (eliB g es hs items d m=false):=Lib.hid (by rw [hel];simp [c1])
  clear hel c1
  go_wp2_with (first | (refine wpList_rowG 36 _ rfl rfl w.heap.size bv _ rfl (HRG.out _ (K3.out)) Tryz.underlying36 rfl (by rw [HBL.out];exact booksSize) ?_) | (refine wpList_rowG 36 _ rfl rfl w.heap.size bv _ rfl (HRG.out _ (KL.out)) Tryz.underlying36 rfl (by rw [HBL.out];exact booksSize) ?_) | (go_at_call 34;guard_hyp HFL:_;(refine (HFL.out _ K3.out).mono ?_);rintro e3 wl ⟨rfl,hkl⟩;have KL:Hid (Keeps W2 wl):=Lib.hid (K3.out.trans hkl);clear HFL hkl z1 z2 z3 m0 m1 m2 m3 hza;obtain ⟨z1,z2,z3,m0,m1,m2,m3⟩:=HCX.out _ KL.out;have hza:=World.block_lt_of_cell? _ _ m0) | (go_at_call 34;guard_hyp KL:_;(refine (HFR.out _ KL.out).mono ?_);rintro e4 wz ⟨rfl,hkz⟩;have K5:Hid (Keeps W2 wz):=Lib.hid (KL.out.trans hkz);clear hkz z1 z2 z3 m0 m1 m2 m3 hza;obtain ⟨z1,z2,z3,m0,m1,m2,m3⟩:=HCX.out _ K5.out;have hza:=World.block_lt_of_cell? _ _ m0))
  refine bodyPost_ret (results_tmp2 rfl _ _ _) rfl ?_
  exact ⟨_,by rw [HQ.out];rfl,HK2.out.trans K3.out,(fun h=>absurd (HQ.out.symm.trans h) (by decide)),fun _=>rfl⟩
end Go.Proofs.YtoaidbhiciaeaaaGreat

end
