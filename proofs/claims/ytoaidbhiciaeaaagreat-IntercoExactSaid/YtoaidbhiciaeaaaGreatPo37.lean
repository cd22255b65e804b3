/- Walks and plain facts that the claim rests on (IcM). No condition. -/
import Derived.Test.YtoaidbhiciaeaaaGreatPo36
set_option linter.unusedSimpArgs false
set_option linter.unusedVariables false
set_option maxHeartbeats 16000000
section
namespace Go.Proofs.YtoaidbhiciaeaaaGreat
open Go.RowKit
theorem grown_set (w:World) (B j:Nat) (u:Value):w.grownBy (w.setCell ⟨B,j,none⟩ u) (some B):=by
 refine ⟨rfl,rfl,rfl,by rw [World.size_setCell];exact Nat.le_refl _,fun k hk hne=>?_⟩
 exact Below.heap_setCell w _ u k (fun e=>hne (by rw [e]))
theorem own_row3 {W:World} {base e sz n B:Nat} {v a b c:Value} {xs:List Value} (h:W.ownsRow base e sz v n xs) (hB:B < base):(((W.setCell ⟨B,0,none⟩ a).setCell ⟨B,1,none⟩ b).setCell ⟨B,2,none⟩ c).ownsRow base e sz v n xs:=
 ownsRow_setCell_below (ownsRow_setCell_below (ownsRow_setCell_below h hB _) hB _) hB _
theorem own_mono {w:World} {base base' e size n:Nat} {v:Value} {xs:List Value} (h:w.ownsRow base e size v n xs) (hb:base'≤base):w.ownsRow base' e size v n xs:=
 ⟨h.1,h.2.imp id fun ⟨g,cap,cur,a,b,r⟩=>⟨g,cap,cur,a,Nat.le_trans hb b,r⟩⟩
structure IcmR (W2 w5 wr:World) (X9:Nat) (ao:Option Addr) (cap b:Nat) (l:List Rf) (items:List Itm) (acq d i x:Int) (k:Nat):Prop where
 kp:Keeps W2 wr
 refs:Recs wr 2 Rf.cells ao l cap b 0
 box:∃ a c,RowB wr X9 83 [.int .i64 i,.int .i64 x,.slice a k c]∧wr.ownsRow w5.heap.size 53 7 (.slice a k c) k (((l.take k).map (itemAt items)).flatMap Itm.cells)
 sz:w5.heap.size≤wr.heap.size
 ok:∀ r∈l.take k,refOk acq items d r=true
theorem flat_snocI (l:List Rf) (items:List Itm) (k:Nat) (hk:k < l.length) (r:Rf) (hr:l[k]=r) (y:Itm) (hy:itemAt items r=y):((l.take (k+1)).map (itemAt items)).flatMap Itm.cells=((l.take k).map (itemAt items)).flatMap Itm.cells ++ y.cells:=by
 rw [take_snoc _ k hk,hr,List.map_append,List.flatMap_append,List.map_singleton,hy]
 simp
theorem elemItm:ElemOf Tryz.prog 37 53 Itm.zero.val 7 56:=⟨Tryz.underlying37,by kernel_rfl,rfl,by omega⟩
theorem elimSize:(Tryz.prog.info? 83).map (·.size)=some 3:=by kernel_rfl
def MOut (w:World) (q:Bool) (x:Eli) (e:Ending) (w':World):Prop:=∃ v,e=.returned (.tuple #[v,.bool q])∧Keeps w w'∧(q=true→∃ a c,v=.agg #[.int .i64 x.id,.int .i64 x.left,.slice a x.own.length c]∧w'.ownsRow w.heap.size 53 7 (.slice a x.own.length c) x.own.length (x.own.flatMap Itm.cells))∧(q=false→v=.agg #[.int .i64 0,.int .i64 0,.slice none 0 0])
theorem refOk_1 {acq:Int} {items:List Itm} {d:Int} {r:Rf} (h:(findI items r).isSome=false):refOk acq items d r=false:=by unfold refOk;rw [h];rfl
theorem refOk_2 {acq:Int} {items:List Itm} {d:Int} {r:Rf} (h:d < (itemAt items r).date):refOk acq items d r=false:=by unfold refOk;rw [decide_eq_false (by omega:¬ (itemAt items r).date≤d)];simp
theorem refOk_3 {acq:Int} {items:List Itm} {d:Int} {r:Rf} (h:(itemAt items r).acc=acq):refOk acq items d r=false:=by unfold refOk;rw [h];simp
theorem refOk_4 {acq:Int} {items:List Itm} {d:Int} {r:Rf} (h1:(findI items r).isSome=true) (h2:¬ d < (itemAt items r).date) (h3:(itemAt items r).acc≠acq):refOk acq items d r=true:=by unfold refOk;rw [h1,decide_eq_true (by omega:(itemAt items r).date≤d)];simpa using h3
theorem all_bad {α:Type} {p:α→Bool} {l:List α} {k:Nat} (hk:k < l.length) (h:p l[k]=false):l.all p=false:=by
 rw [List.all_eq_false];exact ⟨_,List.getElem_mem hk,by rw [h];simp⟩
theorem icm_step {W2 w5 wr wd w9:World} {X9:Nat} {ao:Option Addr} {cap b:Nat} {l:List Rf} {items:List Itm} {acq d i x:Int} {k:Nat} {r:Rf} {y:Itm} {a9 a10:Option Addr} {c9 c10:Nat} {o:Obj} (H:IcmR W2 w5 wr X9 ao cap b l items acq d i x k) (hd:Keeps wr wd) (hk:k < l.length) (hr:l[k]=r) (hy:itemAt items r=y)
  (hown9:wd.ownsRow w5.heap.size 53 7 (.slice a9 k c9) k (((l.take k).map (itemAt items)).flatMap Itm.cells)) (hown':w9.ownsRow w5.heap.size 53 7 (.slice a10 (k+1) c10) (k+1) (((l.take k).map (itemAt items)).flatMap Itm.cells ++ y.cells))
  (hg:(wd.alloc o).grownBy w9 (Value.slice a9 k c9).ownBlock) (h9:RowB w9 X9 83 [.int .i64 i,.int .i64 x,.slice a9 k c9]) (hW:W2.heap.size≤X9) (hX:X9 < w5.heap.size) (hb:0 < l.length→X9 < b∧b < w5.heap.size) (hok:∀ q∈l.take (k+1),refOk acq items d q=true) :
  IcmR W2 w5 (w9.setCell ⟨X9,2,none⟩ (.slice a10 (k+1) c10)) X9 ao cap b l items acq d i x (k+1):=by
 obtain ⟨hb1,hb2⟩:=hb (by omega)
 have hkd:Keeps W2 (wd.alloc o):=(H.kp.trans hd).alloc o
 refine ⟨?_,?_,⟨a10,c10,h9.set 2 _,?_⟩,?_,hok⟩
 ·exact Keeps.setCell (Below.grown hkd hg hkd.size (fun j hj=>by have:=(hown9.lt j hj).1;omega)) (p:=⟨X9,2,none⟩) hW _
 ·refine Sl.grownR (Sl.grownR (Sl.keeps H.refs (hd.alloc o)) hg (fun e=>?_)) (grown_set w9 X9 2 _) (fun e=>?_)
  ·have:=(hown9.lt b e.symm).1;omega
  ·have:=Option.some.inj e;omega
 ·rw [flat_snocI l items k hk r hr y hy]
  exact ownsRow_setCell_below hown' hX _
 ·rw [World.size_setCell]
  exact Nat.le_trans H.sz (Nat.le_trans (hd.alloc o).size hg.size)
set_option maxRecDepth 100000 in
theorem mtch_any (bv:List Value) (g:Grp) (es:List JV) (hs:List Hol) (ms:List MV) (items:List Itm) (B mb:Nat) (a b:Int) (m:Mt) (aoL:Option Addr) (capL bL oL:Nat) (aoR:Option Addr) (capR bR oR:Nat) (w:World) (HF:Fin w B mb bv items a b) (H:BkG w bv g es hs ms) (SM:SmallB g es hs ms items)
  (HL:Recs w 2 Rf.cells aoL m.left capL bL oL) (HR:Recs w 2 Rf.cells aoR m.right capR bR oR) (h1:m.left.length≤400) (h2:m.right.length≤400) (hmo:m.Ok) :
  Calls Tryz.prog 43 #[.pointer (some ⟨B,0,none⟩),.agg #[.int .i64 m.id,.slice aoL m.left.length capL,.slice aoR m.right.length capR,.int .i64 m.state]] w (MOut w (eliB g es hs items b m) (eliM es items m)):=by
 have hk0:Keeps w ((w.alloc (.cells #[.int .i64 m.id,.slice aoL m.left.length capL,.slice aoR m.right.length capR,.int .i64 m.state] 48)).alloc (.cells #[.int .i64 0,.int .i64 0,.slice none 0 0] 83)):=((Keeps.refl w).alloc _).alloc _
 have hb3:RowB ((w.alloc (.cells #[.int .i64 m.id,.slice aoL m.left.length capL,.slice aoR m.right.length capR,.int .i64 m.state] 48)).alloc (.cells #[.int .i64 0,.int .i64 0,.slice none 0 0] 83)) w.heap.size 48 [.int .i64 m.id,.slice aoL m.left.length capL,.slice aoR m.right.length capR,.int .i64 m.state]:=(RowB.new w _ _).alloc _
 have hb4:RowB ((w.alloc (.cells #[.int .i64 m.id,.slice aoL m.left.length capL,.slice aoR m.right.length capR,.int .i64 m.state] 48)).alloc (.cells #[.int .i64 0,.int .i64 0,.slice none 0 0] 83)) (w.heap.size+1) 83 [.int .i64 0,.int .i64 0,.slice none 0 0]:=by
  have:=RowB.new (w.alloc (.cells #[.int .i64 m.id,.slice aoL m.left.length capL,.slice aoR m.right.length capR,.int .i64 m.state] 48)) 83 [.int .i64 0,.int .i64 0,.slice none 0 0]
  rw [World.size_alloc] at this
  exact this
 have hz2:w.heap.size+1+1=((w.alloc (.cells #[.int .i64 m.id,.slice aoL m.left.length capL,.slice aoR m.right.length capR,.int .i64 m.state] 48)).alloc (.cells #[.int .i64 0,.int .i64 0,.slice none 0 0] 83)).heap.size:=by simp
 obtain ⟨W2,hW2⟩:∃ W2,(w.alloc (.cells #[.int .i64 m.id,.slice aoL m.left.length capL,.slice aoR m.right.length capR,.int .i64 m.state] 48)).alloc (.cells #[.int .i64 0,.int .i64 0,.slice none 0 0] 83)=W2:=⟨_,rfl⟩
 rw [hW2] at hk0 hb3 hb4 hz2
 have HK2:=Lib.hid hk0
 have HB4:=Lib.hid hb4
 have HCX:Hid (∀ W,Keeps W2 W→W.cell? ⟨w.heap.size,0,none⟩=some (.int .i64 m.id)∧W.cell? ⟨w.heap.size,1,none⟩=some (.slice aoL m.left.length capL)∧W.cell? ⟨w.heap.size,2,none⟩=some (.slice aoR m.right.length capR)∧W.cell? ⟨w.heap.size,3,none⟩=some (.int .i64 m.state)):=Lib.hid (fun W hW=>⟨hW.cell (hb3.cell 0 _ rfl),hW.cell (hb3.cell 1 _ rfl),hW.cell (hb3.cell 2 _ rfl),hW.cell (hb3.cell 3 _ rfl)⟩)
 have HS1:Hid (∀ W,Keeps W2 W→W.rangeAt B 0 bv∧W.cell? ⟨w.heap.size,0,none⟩=some (.int .i64 m.id)∧W.cell? ⟨w.heap.size,1,none⟩=some (.slice aoL m.left.length capL)∧W.cell? ⟨w.heap.size,2,none⟩=some (.slice aoR m.right.length capR)∧W.cell? ⟨w.heap.size,3,none⟩=some (.int .i64 m.state)):=Lib.hid (fun W hW=>⟨range_keeps HF.books (hk0.trans hW),HCX.out W hW⟩)
 obtain ⟨⟨x,y,er⟩,hx⟩:∃ r,sidesR es m=r:=⟨_,rfl⟩
 have HSD:Hid (∀ W,Keeps W2 W→Calls Tryz.prog 76 #[.agg bv.toArray,.agg #[.int .i64 m.id,.slice aoL m.left.length capL,.slice aoR m.right.length capR,.int .i64 m.state]] W fun e w'=>e=.returned (.tuple #[.int .i64 x,.int .i64 y,.int .i64 er])∧Keeps W w'):=Lib.hid (fun W hk=>by
  have:=sides_any bv es ms m aoL capL bL oL aoR capR bR oR W (H.bks.keeps (hk0.trans hk)) SM.lines (HL.keeps (hk0.trans hk)) (HR.keeps (hk0.trans hk)) h1 h2 hmo
  rw [hx] at this
  exact this)
 obtain ⟨q1,hq1⟩:∃ q,fullB g hs b x=q:=⟨_,rfl⟩
 obtain ⟨q2,hq2⟩:∃ q,fullB g hs b y=q:=⟨_,rfl⟩
 have HFL:Hid (∀ W,Keeps W2 W→Calls Tryz.prog 77 #[.pointer (some ⟨B,0,none⟩),.int .i64 x] W fun e w'=>e=.returned (.bool q1)∧Keeps W w'):=Lib.hid (fun W hk=>by
  have:=full_any bv g es hs ms items B mb a b x W (HF.keeps (hk0.trans hk)) (H.keeps (hk0.trans hk)) SM
  rw [hq1] at this
  exact this)
 have HFR:Hid (∀ W,Keeps W2 W→Calls Tryz.prog 77 #[.pointer (some ⟨B,0,none⟩),.int .i64 y] W fun e w'=>e=.returned (.bool q2)∧Keeps W w'):=Lib.hid (fun W hk=>by
  have:=full_any bv g es hs ms items B mb a b y W (HF.keeps (hk0.trans hk)) (H.keeps (hk0.trans hk)) SM
  rw [hq2] at this
  exact this)
 have hel:eliB g es hs items b m=(er == 0 && (m.state == 4 && (q1 && (q2 && (m.left ++ m.right).all (refOk g.rl.r7 items b))))):=by unfold eliB;rw [hx];simp only [hq1,hq2]
 have heM:eliM es items m=⟨m.id,x,(m.left ++ m.right).map (itemAt items)⟩:=by unfold eliM;rw [hx]
 have HCC:Hid (∀ W ao cap bb o,Keeps w W→Sl W 1 ao 2 cap bb o [.slice aoL m.left.length capL,.slice aoR m.right.length capR]→Calls Tryz.prog 70 #[.slice ao 2 cap] W fun e w'=>∃ v,e=.returned v∧w'.ownsRow W.heap.size 51 2 v (m.left ++ m.right).length ((m.left ++ m.right).flatMap Rf.cells)∧Keeps W w'):=Lib.hid (fun W ao cap bb o hk hs=>concat_any m.left m.right aoL capL bL oL aoR capR bR oR ao cap bb o W (HL.keeps hk) (HR.keeps hk) hs h1 h2)
 have HBL:=Lib.hid H.bks.len
 have HHF:=Lib.hid HF
 have HBG:=Lib.hid H
 have HMO:Hid (∀ r∈m.left ++ m.right,r.Ok):=Lib.hid (fun r hr=>(List.mem_append.1 hr).elim (hmo.1 r) (hmo.2 r))
 have HLN:Hid ((m.left ++ m.right).length≤800):=Lib.hid (by rw [List.length_append];omega)
 clear H HF SM HL HR h1 h2 hk0 hb3 hb4 hx hq1 hq2 hmo
 go_enter Tryz.func43,Tryz.ntmps43;go_upto_region 1 with fail;(try rw [hW2]);(try rw [hz2]);clear hW2
 refine wp_region_steps (A:=?_) Keeps [some 15,some 16,some 17,some 18,some 19,some 20,some 14,some 21,some 22,some 23,some 6,some 7,some 8] [[],[0],[1],[2],[],[3,4],[5],[6],[6],[6],[7],[8],[9]] 13 (by kernel_rfl) (by kernel_rfl) (by kernel_rfl) (by kernel_rfl) (by kernel_rfl) (by kernel_rfl) Keeps.refl (fun _ _ _=>Keeps.trans) ?_ ?_
 rotate_left
 ·intro f;simp only [putL,Act.put,List.setIfInBounds_toArray,List.set_cons_zero,List.set_cons_succ,Nat.zero_add,Nat.reduceAdd];exact rfl
 iterate 3 (refine Steps.pure (v:=?_) Keeps.refl rfl (fun f w' hR hV=>⟨?_,?_⟩) ?_;rotate_left;(focus rfl);(focus ((repeat (obtain ⟨hq,hV⟩:=hV;(try replace hq:_=_:=hq)));obtain ⟨rb,m0,m1,m2,m3⟩:=HS1.out _ ((Keeps.refl W2).drew.trans hR);go_simp;all_goals (try with_reducible rfl))))
 refine Steps.pure (v:=.agg bv.toArray) Keeps.refl rfl (fun f w' hR hV=>⟨?_,?_⟩) ?_
 ·(rfl)
 ·(obtain ⟨h2,_⟩:=hV;replace h2:f 2=_:=h2;obtain ⟨rb,m0,m1,m2,m3⟩:=HS1.out _ ((Keeps.refl W2).drew.trans hR);exact exec_load_mid 36 (.tmp 17) rfl B h2 bv _ rb Tryz.underlying36 rfl (by rw [HBL.out];exact booksSize))
 (refine Steps.pure (v:=?_) Keeps.refl rfl (fun f w' hR hV=>⟨?_,?_⟩) ?_;rotate_left;(focus rfl);(focus ((repeat (obtain ⟨hq,hV⟩:=hV;(try replace hq:_=_:=hq)));obtain ⟨rb,m0,m1,m2,m3⟩:=HS1.out _ ((Keeps.refl W2).drew.trans hR);go_simp;all_goals (try with_reducible rfl))))
 refine Steps.call (fun _ v=>v=.tuple #[.int .i64 x,.int .i64 y,.int .i64 er]) rfl (fun _ _ _ _ h=>h) (fun f w' hR hV=>⟨?_,?_⟩) ?_
 ·(rfl)
 ·(obtain ⟨h3,h4,_⟩:=hV;replace h3:f 3=_:=h3;replace h4:f 4=_:=h4;obtain ⟨rb,m0,m1,m2,m3⟩:=HS1.out _ ((Keeps.refl W2).drew.trans hR);go_simp;go_at_call 76;refine (HSD.out _ ((Keeps.refl W2).drew.trans hR)).mono ?_;rintro e w5 ⟨rfl,hk5⟩;exact StepPost.of _ rfl rfl hk5)
 iterate 7 (refine Steps.pure (v:=?_) Keeps.refl rfl (fun f w' hR hV=>⟨?_,?_⟩) ?_;rotate_left;(focus rfl);(focus ((repeat (obtain ⟨hq,hV⟩:=hV;(try replace hq:_=_:=hq)));obtain ⟨rb,m0,m1,m2,m3⟩:=HS1.out _ ((Keeps.refl W2).drew.trans hR);go_simp;all_goals (try with_reducible rfl))))
 all_goals (refine Steps.done [10,11,12] (by kernel_rfl) rfl (fun f wa hR hV=>?_);obtain ⟨h10,h11,h12,_⟩:=hV;replace h10:f 10=_:=h10;replace h11:f 11=_:=h11;replace h12:f 12=_:=h12;simp only [h10];simp only [h11];simp only [h12])
 have K3d:Hid (Keeps W2 wa):=Lib.hid ((Keeps.refl W2).drew.trans hR)
 clear hR h10 h11 h12
 have x0:=RowB.cell (HB4.out.keeps K3d.out) 0 _ rfl
 have x1:=RowB.cell (HB4.out.keeps K3d.out) 1 _ rfl
 have x2:=RowB.cell (HB4.out.keeps K3d.out) 2 _ rfl
 have y0:=RowB.frozen (HB4.out.keeps K3d.out) 0
 have y1:=RowB.frozen (HB4.out.keeps K3d.out) 1
 have y2:=RowB.frozen (HB4.out.keeps K3d.out) 2
 obtain ⟨m0,m1,m2,m3⟩:=HCX.out _ K3d.out
 by_cases c1:er=0
 ·have e1:(er != 0)=false:=by simp [c1]
  by_cases c2:m.state=4
  ·have e2:(m.state != 4)=false:=by simp [c2]
   cases q1 with
   | false=>
    have HQ:Hid (eliB g es hs items b m=false):=Lib.hid (by rw [hel,c1];simp)
    clear hel heM HCC HHF HBG HMO HLN c2 c1
    go_wp2_with (first | (go_at_call 77;guard_hyp HFL:_;(refine (HFL.out _ K3d.out).mono ?_);rintro e1 wl ⟨rfl,hkl⟩;have KL:=Lib.hid (K3d.out.trans hkl);clear HFL hkl x0 x1 x2 y0 y1 y2 m0 m1 m2 m3;have x0:=RowB.cell (HB4.out.keeps KL.out) 0 _ rfl;have x1:=RowB.cell (HB4.out.keeps KL.out) 1 _ rfl;have x2:=RowB.cell (HB4.out.keeps KL.out) 2 _ rfl;have y0:=RowB.frozen (HB4.out.keeps KL.out) 0;have y1:=RowB.frozen (HB4.out.keeps KL.out) 1;have y2:=RowB.frozen (HB4.out.keeps KL.out) 2;obtain ⟨m0,m1,m2,m3⟩:=HCX.out _ KL.out) | (go_at_call 77;guard_hyp KL:_;(refine (HFR.out _ KL.out).mono ?_);rintro e2 wz ⟨rfl,hkz⟩;have K5:=Lib.hid (KL.out.trans hkz);clear hkz x0 x1 x2 y0 y1 y2 m0 m1 m2 m3;have x0:=RowB.cell (HB4.out.keeps K5.out) 0 _ rfl;have x1:=RowB.cell (HB4.out.keeps K5.out) 1 _ rfl;have x2:=RowB.cell (HB4.out.keeps K5.out) 2 _ rfl;have y0:=RowB.frozen (HB4.out.keeps K5.out) 0;have y1:=RowB.frozen (HB4.out.keeps K5.out) 1;have y2:=RowB.frozen (HB4.out.keeps K5.out) 2;obtain ⟨m0,m1,m2,m3⟩:=HCX.out _ K5.out;have hzb:=World.block_lt_of_cell? _ _ m0))
    refine bodyPost_ret (results_row_tmp rfl _ _ (w.heap.size+1) [.int .i64 0,.int .i64 0,.slice none 0 0] _ rfl (RowB.range ((((HB4.out.keeps KL.out).set 0 _).set 1 _).set 2 _)) Tryz.underlying83 rfl elimSize) rfl ?_
    exact ⟨_,by rw [HQ.out];rfl,keeps_row3 (HK2.out.trans KL.out) (Nat.le_succ _) _ _ _,(fun h=>absurd (HQ.out.symm.trans h) (by decide)),fun _=>rfl⟩
   | true=>
    cases q2 with
    | false=>
     have HQ:Hid (eliB g es hs items b m=false):=Lib.hid (by rw [hel,c1];simp)
     clear hel heM HCC HHF HBG HMO HLN c2 c1
     go_wp2_with (first | (go_at_call 77;guard_hyp HFL:_;(refine (HFL.out _ K3d.out).mono ?_);rintro e1 wl ⟨rfl,hkl⟩;have KL:=Lib.hid (K3d.out.trans hkl);clear HFL hkl x0 x1 x2 y0 y1 y2 m0 m1 m2 m3;have x0:=RowB.cell (HB4.out.keeps KL.out) 0 _ rfl;have x1:=RowB.cell (HB4.out.keeps KL.out) 1 _ rfl;have x2:=RowB.cell (HB4.out.keeps KL.out) 2 _ rfl;have y0:=RowB.frozen (HB4.out.keeps KL.out) 0;have y1:=RowB.frozen (HB4.out.keeps KL.out) 1;have y2:=RowB.frozen (HB4.out.keeps KL.out) 2;obtain ⟨m0,m1,m2,m3⟩:=HCX.out _ KL.out) | (go_at_call 77;guard_hyp KL:_;(refine (HFR.out _ KL.out).mono ?_);rintro e2 wz ⟨rfl,hkz⟩;have K5:=Lib.hid (KL.out.trans hkz);clear hkz x0 x1 x2 y0 y1 y2 m0 m1 m2 m3;have x0:=RowB.cell (HB4.out.keeps K5.out) 0 _ rfl;have x1:=RowB.cell (HB4.out.keeps K5.out) 1 _ rfl;have x2:=RowB.cell (HB4.out.keeps K5.out) 2 _ rfl;have y0:=RowB.frozen (HB4.out.keeps K5.out) 0;have y1:=RowB.frozen (HB4.out.keeps K5.out) 1;have y2:=RowB.frozen (HB4.out.keeps K5.out) 2;obtain ⟨m0,m1,m2,m3⟩:=HCX.out _ K5.out;have hzb:=World.block_lt_of_cell? _ _ m0))
     refine bodyPost_ret (results_row_tmp rfl _ _ (w.heap.size+1) [.int .i64 0,.int .i64 0,.slice none 0 0] _ rfl (RowB.range ((((HB4.out.keeps K5.out).set 0 _).set 1 _).set 2 _)) Tryz.underlying83 rfl elimSize) rfl ?_
     exact ⟨_,by rw [HQ.out];rfl,keeps_row3 (HK2.out.trans K5.out) (Nat.le_succ _) _ _ _,(fun h=>absurd (HQ.out.symm.trans h) (by decide)),fun _=>rfl⟩
    | true=>
     obtain ⟨l,hl⟩:∃ l,m.left ++ m.right=l:=⟨_,rfl⟩
     rw [hl] at hel heM HCC HMO HLN
     have HEL:Hid (eliB g es hs items b m=l.all (refOk g.rl.r7 items b)):=Lib.hid (by rw [hel,c2,c1];rfl)
     have HEM:=Lib.hid heM
     have hll:=HLN.out
     obtain ⟨nm,hnm,hmap⟩:=HHF.out.map
     have HMP:=Lib.hid hmap
     have hfc:=(HHF.out.tail HBL.out)
     obtain ⟨aoC,capC,bC,oC,aoE,capE,bE,oE,hgc,_,_⟩:=HBG.out.grp
     have hf12:=HHF.out.cell (hgc 12 _ rfl)
     have HFC:Hid (∀ W,Keeps W2 W→W.cell? ⟨B,27,none⟩=some (.map (some mb))∧W.cell? ⟨B,29,none⟩=some (.int .i64 b)∧W.cell? ⟨B,12,none⟩=some (.int .i64 g.rl.r7)):=Lib.hid (fun W hW=>⟨(HK2.out.trans hW).cell hfc.1,(HK2.out.trans hW).cell hfc.2.2,(HK2.out.trans hW).cell hf12⟩)
     clear hel heM c2 c1 hl hmap hfc hgc hf12 hnm
     go_wp2_with (first | (go_at_call 77;guard_hyp HFL:_;(refine (HFL.out _ K3d.out).mono ?_);rintro e1 wl ⟨rfl,hkl⟩;have KL:=Lib.hid (K3d.out.trans hkl);clear HFL hkl x0 x1 x2 y0 y1 y2 m0 m1 m2 m3;have x0:=RowB.cell (HB4.out.keeps KL.out) 0 _ rfl;have x1:=RowB.cell (HB4.out.keeps KL.out) 1 _ rfl;have x2:=RowB.cell (HB4.out.keeps KL.out) 2 _ rfl;have y0:=RowB.frozen (HB4.out.keeps KL.out) 0;have y1:=RowB.frozen (HB4.out.keeps KL.out) 1;have y2:=RowB.frozen (HB4.out.keeps KL.out) 2;obtain ⟨m0,m1,m2,m3⟩:=HCX.out _ KL.out) | (go_at_call 77;guard_hyp KL:_;(refine (HFR.out _ KL.out).mono ?_);rintro e2 wz ⟨rfl,hkz⟩;have K5:=Lib.hid (KL.out.trans hkz);clear hkz x0 x1 x2 y0 y1 y2 m0 m1 m2 m3;have x0:=RowB.cell (HB4.out.keeps K5.out) 0 _ rfl;have x1:=RowB.cell (HB4.out.keeps K5.out) 1 _ rfl;have x2:=RowB.cell (HB4.out.keeps K5.out) 2 _ rfl;have y0:=RowB.frozen (HB4.out.keeps K5.out) 0;have y1:=RowB.frozen (HB4.out.keeps K5.out) 1;have y2:=RowB.frozen (HB4.out.keeps K5.out) 2;obtain ⟨m0,m1,m2,m3⟩:=HCX.out _ K5.out;have hzb:=World.block_lt_of_cell? _ _ m0) | (go_at_call 70;have hlit:=Sl.lit (wz.alloc (.cells #[.int .i64 m.id,.int .i64 x,.slice none 0 0] 83)) 1 2 [.slice aoL m.left.length capL,.slice aoR m.right.length capR] 46 rfl (by omega);rw [World.size_alloc] at hlit;(refine (HCC.out _ _ _ _ _ (HK2.out.trans ((K5.out.alloc _).alloc _)) hlit).mono ?_);rintro e5 w5 ⟨v5,rfl,ho5,hk5⟩;clear hlit;obtain ⟨ao5,cap5,b5,rfl,hs5⟩:=Sl.own ho5;have hb5:=own_block ho5 hs5;simp only [World.size_alloc] at hb5;have HB5:Hid (0 < l.length→wz.heap.size < b5∧b5 < w5.heap.size):=Lib.hid (fun hn=>⟨by have:=hb5 hn;omega,(ho5.lt b5 (by have:=hs5.addr hn;rw [this];rfl)).2⟩);have hcap5:=Sl.cap hs5;have hle5:=Sl.le hs5;have HS5:=Lib.hid hs5;have K6:=Lib.hid (((K5.out.alloc (.cells #[.int .i64 m.id,.int .i64 x,.slice none 0 0] 83)).alloc (.cells #[.slice aoL m.left.length capL,.slice aoR m.right.length capR] 46)).trans hk5);have HZ5:=hk5.size;simp only [World.size_alloc] at HZ5;have HB9:=Lib.hid (((RowB.new wz 83 [.int .i64 m.id,.int .i64 x,.slice none 0 0]).alloc (.cells #[.slice aoL m.left.length capL,.slice aoR m.right.length capR] 46)).keeps hk5);clear ho5 hs5 hk5 m0 m1 m2 m3))
     have hlt9:wz.heap.size < w5.heap.size:=by omega
     have HB4K:=HB4
     clear x0 x1 x2 y0 y1 y2
     go_loopw [55] (fun vi wr=>∃ k:Nat,k≤l.length∧vi=.int .i64 k∧Hid (IcmR W2 w5 wr wz.heap.size ao5 cap5 b5 l items g.rl.r7 b m.id x k)) (fun vi _=>l.length - (intOf vi).toNat)
     case atStart=>exact ⟨0,Nat.zero_le _,rfl,Lib.hid ⟨K6.out,HS5.out,⟨none,0,HB9.out,by rw [List.take_zero];exact World.ownsRow_nil _ _ _ _⟩,Nat.le_refl _,by simp⟩⟩
     case round=>
      obtain ⟨k,hk,rfl,HW⟩:=hrel
      have KW:=Lib.hid HW.out.kp
      by_cases hlt:k < l.length
      ·have hr:=HW.out.refs
       have hix:=Sl.at hr Tryz.underlying46 Tryz.sizeOf51 k hlt
       obtain ⟨r,hrk⟩:∃ r,l[k]=r:=⟨_,rfl⟩
       have c0:=hr.cell Rf.len k hlt 0 (.int .i64 r.e) (by rw [hrk];rfl)
       have c1:=hr.cell Rf.len k hlt 1 (.int .i64 r.l) (by rw [hrk];rfl)
       simp only [Nat.add_zero,Nat.zero_add] at c0 c1 hix
       have HRK:=Lib.hid hrk
       have HRO:Hid r.Ok:=Lib.hid (by rw [← hrk];exact HMO.out _ (List.getElem_mem ..))
       have hzr:=World.block_lt_of_cell? _ _ c0
       obtain ⟨f27,_,_⟩:=HFC.out _ KW.out
       have hzf:=World.block_lt_of_cell? _ _ f27
       clear hr hrk
       have hzv:∀ w,(zeroValue 53).run Tryz.prog w=.ok Itm.zero.val w:=fun w=>Tryz.zeroValue53 w
       have HLK:Hid (∀ W,Keeps (wr.alloc (.cells #[.int .i64 r.e,.int .i64 r.l] 51)) W→(Instr.lookup 108 (.map (some mb)) (.agg #[.int .i64 r.e,.int .i64 r.l]) true).run Tryz.prog W=.ok (.tuple #[(itemAt items r).val,.bool (findI items r).isSome]) W):=Lib.hid (fun W hW=>by
        have:=(HMP.out.keeps (HK2.out.trans (KW.out.trans (((Keeps.refl wr).alloc _).trans hW)))).lookOk Tryz.underlying108 hzv (a:=r) HRO.out _ rfl
        have h2:(itemsM items r).getD Itm.zero.val=(itemAt items r).val:=by unfold itemAt itemsM;cases findI items r <;> rfl
        have h3:(itemsM items r).isSome=(findI items r).isSome:=by unfold itemsM;cases findI items r <;> rfl
        rw [h2,h3] at this
        exact this)
       clear hzv
       obtain ⟨y,hy⟩:∃ y,itemAt items r=y:=⟨_,rfl⟩
       obtain ⟨q,hq⟩:∃ q,(findI items r).isSome=q:=⟨_,rfl⟩
       rw [hy,hq] at HLK
       unfold Itm.val at HLK
       have HQI:=Lib.hid hq
       have HYI:=Lib.hid hy
       clear hy hq
       have i27:(wr.alloc (.cells #[.int .i64 r.e,.int .i64 r.l] 51)).cell? ⟨B,27,none⟩=some (.map (some mb)):=by go_simp
       have i0:(wr.alloc (.cells #[.int .i64 r.e,.int .i64 r.l] 51)).cell? ⟨wr.heap.size,0,none⟩=some (.int .i64 r.e):=by go_simp
       have i1:(wr.alloc (.cells #[.int .i64 r.e,.int .i64 r.l] 51)).cell? ⟨wr.heap.size,1,none⟩=some (.int .i64 r.l):=by go_simp
       go_upto_region 8 with fail
       obtain ⟨wi,hwi⟩:∃ wi,wr.alloc (.cells #[.int .i64 r.e,.int .i64 r.l] 51)=wi:=⟨_,rfl⟩
       have hiz:wr.heap.size < wi.heap.size:=by rw [← hwi];simp
       rw [hwi] at HLK i27 i0 i1 ⊢
       have HKS:Hid (∀ W,Keeps wi W→(Instr.lookup 108 (.map (some mb)) (.agg #[.int .i64 r.e,.int .i64 r.l]) true).run Tryz.prog W=.ok (.tuple #[.agg #[.int .i64 y.ref.e,.int .i64 y.ref.l,.int .i64 y.ent,.int .i64 y.acc,.int .i64 y.ptn,.int .i64 y.date,.int .i64 y.amt],.bool q]) W∧Keeps wi W∧W.cell? ⟨B,27,none⟩=some (.map (some mb))∧W.cell? ⟨wr.heap.size,0,none⟩=some (.int .i64 r.e)∧W.cell? ⟨wr.heap.size,1,none⟩=some (.int .i64 r.l)):=Lib.hid (fun W hW=>⟨HLK.out W hW,hW,hW.cell i27,hW.cell i0,hW.cell i1⟩)
       have HKI:Hid (Keeps W2 wi):=Lib.hid (by rw [← hwi];exact KW.out.alloc _)
       have HKI2:Hid (Keeps wr wi):=Lib.hid (by rw [← hwi];exact (Keeps.refl wr).alloc _)
       clear hwi c0 c1 f27 i27 i0 i1
       go_cut [12,13] from 59 to 67 (fun v12 v13 wx=>v12=.pointer (some ⟨wi.heap.size,0,none⟩)∧v13=.bool q∧Hid (wx=(wi.alloc (.cells #[.int .i64 y.ref.e,.int .i64 y.ref.l,.int .i64 y.ent,.int .i64 y.acc,.int .i64 y.ptn,.int .i64 y.date,.int .i64 y.amt] 53)).drew))
       case first=>
        go_region_held3 (fun W=>(Instr.lookup 108 (.map (some mb)) (.agg #[.int .i64 r.e,.int .i64 r.l]) true).run Tryz.prog W=.ok (.tuple #[.agg #[.int .i64 y.ref.e,.int .i64 y.ref.l,.int .i64 y.ent,.int .i64 y.acc,.int .i64 y.ptn,.int .i64 y.date,.int .i64 y.amt],.bool q]) W∧Keeps wi W∧W.cell? ⟨B,27,none⟩=some (.map (some mb))∧W.cell? ⟨wr.heap.size,0,none⟩=some (.int .i64 r.e)∧W.cell? ⟨wr.heap.size,1,none⟩=some (.int .i64 r.l))
         (first | exact HKS.out _ (Keeps.refl _).drew | exact HKS.out _ ((Keeps.refl _).alloc _).drew | exact HKS.out _ ((Keeps.refl _).alloc _))
         (fail)
        all_goals (go_wp2_with fail;go_meet;exact ⟨rfl,rfl,Lib.hid rfl⟩)
       case rest=>
        obtain ⟨rfl,rfl,HC⟩:=hcut
        have HKC:Hid (Keeps wi wc):=Lib.hid (by rw [HC.out];exact ((Keeps.refl wi).alloc _).drew)
        have hyb:RowB wc wi.heap.size 53 y.cells:=by rw [HC.out];exact RowB.new wi _ _
        have HYB:=Lib.hid hyb
        have HCY:Hid (∀ W,Keeps wc W→W.cell? ⟨wi.heap.size,3,none⟩=some (.int .i64 y.acc)∧W.cell? ⟨wi.heap.size,5,none⟩=some (.int .i64 y.date)∧W.cell? ⟨B,29,none⟩=some (.int .i64 b)∧W.cell? ⟨B,12,none⟩=some (.int .i64 g.rl.r7)):=Lib.hid (fun W hW=>by
         obtain ⟨_,q2,q3⟩:=HFC.out W (HKI.out.trans (HKC.out.trans hW))
         exact ⟨hW.cell (HYB.out.cell 3 _ rfl),hW.cell (HYB.out.cell 5 _ rfl),q2,q3⟩)
        clear HC HKS HLK hyb
        cases q with
        | false=>
         have HQ:Hid (eliB g es hs items b m=false):=Lib.hid (by rw [HEL.out];exact all_bad hlt (by rw [HRK.out];exact refOk_1 HQI.out))
         go_upto_region 9 with fail
         refine wp_region_steps (A:=?_) Keeps [some 68,some 69,some 70,some 71,some 72,some 73,some 74,some 75,some 76,some 77,some 78,some 79,some 80,some 81,some 82,some 83,some 84,some 85,some 86,some 87,some 88,some 89,some 90] [[],[0],[1],[2],[2,3],[2],[2,5],[2,6],[2,7],[2,4,8],[2,9],[10],[11],[11,12],[11],[11,14],[11,15],[11,16],[11,17],[11,18],[11,19],[11,13,20],[11,21]] 23 (by kernel_rfl) (by kernel_rfl) (by kernel_rfl) (by kernel_rfl) (by kernel_rfl) (by kernel_rfl) Keeps.refl (fun _ _ _=>Keeps.trans) ?_ ?_
         rotate_left
         ·intro f;simp only [putL,Act.put,List.setIfInBounds_toArray,List.set_cons_zero,List.set_cons_succ,Nat.zero_add,Nat.reduceAdd];exact rfl
         iterate 23 (all_goals first
          | (refine Steps.pure (v:=?_) Keeps.refl rfl (fun f w' hR hV=>⟨?_,?_⟩) ?_;rotate_left;(focus ((repeat (obtain ⟨hq,hV⟩:=hV;(try replace hq:_=_:=hq)));first | exact want_yes rfl rfl rfl (by assumption) | rfl));(focus ((repeat (obtain ⟨hq,hV⟩:=hV;(try replace hq:_=_:=hq)));obtain ⟨u3,u5,f29,f12⟩:=HCY.out _ ((Keeps.refl wc).drew.trans hR);go_simp;all_goals (try with_reducible rfl))))
          | (refine Steps.skip rfl (fun f w' hR hV=>?_) ?_;(focus ((repeat (obtain ⟨hq,hV⟩:=hV;(try replace hq:_=_:=hq)));first | exact want_no rfl rfl rfl (by assumption) rfl | exact want_undef rfl rfl rfl (by assumption)))))
         all_goals (refine Steps.done [22] (by kernel_rfl) rfl (fun f wd hR hV=>?_);obtain ⟨h22,_⟩:=hV;replace h22:f 22=_:=h22;simp only [h22])
         have KD:Hid (Keeps W2 wd):=Lib.hid (HKI.out.trans (HKC.out.trans ((Keeps.refl wc).drew.trans hR)))
         clear hR
         have x0:=RowB.cell (HB4.out.keeps KD.out) 0 _ rfl
         have x1:=RowB.cell (HB4.out.keeps KD.out) 1 _ rfl
         have x2:=RowB.cell (HB4.out.keeps KD.out) 2 _ rfl
         have y0:=RowB.frozen (HB4.out.keeps KD.out) 0
         have y1:=RowB.frozen (HB4.out.keeps KD.out) 1
         have y2:=RowB.frozen (HB4.out.keeps KD.out) 2
         go_wp2_with fail
         refine bodyPost_ret (results_row_tmp rfl _ _ (w.heap.size+1) [.int .i64 0,.int .i64 0,.slice none 0 0] _ rfl (RowB.range ((((HB4.out.keeps KD.out).set 0 _).set 1 _).set 2 _)) Tryz.underlying83 rfl elimSize) rfl ?_
         exact ⟨_,by rw [HQ.out];rfl,keeps_row3 (HK2.out.trans KD.out) (Nat.le_succ _) _ _ _,(fun h=>absurd (HQ.out.symm.trans h) (by decide)),fun _=>rfl⟩
        | true=>
         by_cases g1:b < y.date
         ·have g1':decide (b < y.date)=true:=decide_eq_true g1
          have HG1:=Lib.hid g1
          clear g1
          have HQ:Hid (eliB g es hs items b m=false):=Lib.hid (by rw [HEL.out];exact all_bad hlt (by rw [HRK.out];exact refOk_2 (by rw [HYI.out];exact HG1.out)))
          go_upto_region 9 with fail
          refine wp_region_steps (A:=?_) Keeps [some 68,some 69,some 70,some 71,some 72,some 73,some 74,some 75,some 76,some 77,some 78,some 79,some 80,some 81,some 82,some 83,some 84,some 85,some 86,some 87,some 88,some 89,some 90] [[],[0],[1],[2],[2,3],[2],[2,5],[2,6],[2,7],[2,4,8],[2,9],[10],[11],[11,12],[11],[11,14],[11,15],[11,16],[11,17],[11,18],[11,19],[11,13,20],[11,21]] 23 (by kernel_rfl) (by kernel_rfl) (by kernel_rfl) (by kernel_rfl) (by kernel_rfl) (by kernel_rfl) Keeps.refl (fun _ _ _=>Keeps.trans) ?_ ?_
          rotate_left
          ·intro f;simp only [putL,Act.put,List.setIfInBounds_toArray,List.set_cons_zero,List.set_cons_succ,Nat.zero_add,Nat.reduceAdd];exact rfl
          iterate 23 (all_goals first
           | (refine Steps.pure (v:=?_) Keeps.refl rfl (fun f w' hR hV=>⟨?_,?_⟩) ?_;rotate_left;(focus ((repeat (obtain ⟨hq,hV⟩:=hV;(try replace hq:_=_:=hq)));first | exact want_yes rfl rfl rfl (by assumption) | rfl));(focus ((repeat (obtain ⟨hq,hV⟩:=hV;(try replace hq:_=_:=hq)));obtain ⟨u3,u5,f29,f12⟩:=HCY.out _ ((Keeps.refl wc).drew.trans hR);go_simp;all_goals (try with_reducible rfl))))
           | (refine Steps.skip rfl (fun f w' hR hV=>?_) ?_;(focus ((repeat (obtain ⟨hq,hV⟩:=hV;(try replace hq:_=_:=hq)));first | exact want_no rfl rfl rfl (by assumption) rfl | exact want_undef rfl rfl rfl (by assumption)))))
          all_goals (refine Steps.done [22] (by kernel_rfl) rfl (fun f wd hR hV=>?_);obtain ⟨h22,_⟩:=hV;replace h22:f 22=_:=h22;simp only [h22])
          have KD:Hid (Keeps W2 wd):=Lib.hid (HKI.out.trans (HKC.out.trans ((Keeps.refl wc).drew.trans hR)))
          clear hR
          have x0:=RowB.cell (HB4.out.keeps KD.out) 0 _ rfl
          have x1:=RowB.cell (HB4.out.keeps KD.out) 1 _ rfl
          have x2:=RowB.cell (HB4.out.keeps KD.out) 2 _ rfl
          have y0:=RowB.frozen (HB4.out.keeps KD.out) 0
          have y1:=RowB.frozen (HB4.out.keeps KD.out) 1
          have y2:=RowB.frozen (HB4.out.keeps KD.out) 2
          go_wp2_with fail
          refine bodyPost_ret (results_row_tmp rfl _ _ (w.heap.size+1) [.int .i64 0,.int .i64 0,.slice none 0 0] _ rfl (RowB.range ((((HB4.out.keeps KD.out).set 0 _).set 1 _).set 2 _)) Tryz.underlying83 rfl elimSize) rfl ?_
          exact ⟨_,by rw [HQ.out];rfl,keeps_row3 (HK2.out.trans KD.out) (Nat.le_succ _) _ _ _,(fun h=>absurd (HQ.out.symm.trans h) (by decide)),fun _=>rfl⟩
         have g1':decide (b < y.date)=false:=decide_eq_false g1
         have HG1:=Lib.hid g1
         clear g1
         by_cases g2:y.acc=g.rl.r7
         ·have g2':(y.acc == g.rl.r7)=true:=by simpa using g2
          have HG2:=Lib.hid g2
          clear g2
          have HQ:Hid (eliB g es hs items b m=false):=Lib.hid (by rw [HEL.out];exact all_bad hlt (by rw [HRK.out];exact refOk_3 (by rw [HYI.out];exact HG2.out)))
          go_upto_region 9 with fail
          refine wp_region_steps (A:=?_) Keeps [some 68,some 69,some 70,some 71,some 72,some 73,some 74,some 75,some 76,some 77,some 78,some 79,some 80,some 81,some 82,some 83,some 84,some 85,some 86,some 87,some 88,some 89,some 90] [[],[0],[1],[2],[2,3],[2],[2,5],[2,6],[2,7],[2,4,8],[2,9],[10],[11],[11,12],[11],[11,14],[11,15],[11,16],[11,17],[11,18],[11,19],[11,13,20],[11,21]] 23 (by kernel_rfl) (by kernel_rfl) (by kernel_rfl) (by kernel_rfl) (by kernel_rfl) (by kernel_rfl) Keeps.refl (fun _ _ _=>Keeps.trans) ?_ ?_
          rotate_left
          ·intro f;simp only [putL,Act.put,List.setIfInBounds_toArray,List.set_cons_zero,List.set_cons_succ,Nat.zero_add,Nat.reduceAdd];exact rfl
          iterate 23 (all_goals first
           | (refine Steps.pure (v:=?_) Keeps.refl rfl (fun f w' hR hV=>⟨?_,?_⟩) ?_;rotate_left;(focus ((repeat (obtain ⟨hq,hV⟩:=hV;(try replace hq:_=_:=hq)));first | exact want_yes rfl rfl rfl (by assumption) | rfl));(focus ((repeat (obtain ⟨hq,hV⟩:=hV;(try replace hq:_=_:=hq)));obtain ⟨u3,u5,f29,f12⟩:=HCY.out _ ((Keeps.refl wc).drew.trans hR);go_simp;all_goals (try with_reducible rfl))))
           | (refine Steps.skip rfl (fun f w' hR hV=>?_) ?_;(focus ((repeat (obtain ⟨hq,hV⟩:=hV;(try replace hq:_=_:=hq)));first | exact want_no rfl rfl rfl (by assumption) rfl | exact want_undef rfl rfl rfl (by assumption)))))
          all_goals (refine Steps.done [22] (by kernel_rfl) rfl (fun f wd hR hV=>?_);obtain ⟨h22,_⟩:=hV;replace h22:f 22=_:=h22;simp only [h22])
          have KD:Hid (Keeps W2 wd):=Lib.hid (HKI.out.trans (HKC.out.trans ((Keeps.refl wc).drew.trans hR)))
          clear hR
          have x0:=RowB.cell (HB4.out.keeps KD.out) 0 _ rfl
          have x1:=RowB.cell (HB4.out.keeps KD.out) 1 _ rfl
          have x2:=RowB.cell (HB4.out.keeps KD.out) 2 _ rfl
          have y0:=RowB.frozen (HB4.out.keeps KD.out) 0
          have y1:=RowB.frozen (HB4.out.keeps KD.out) 1
          have y2:=RowB.frozen (HB4.out.keeps KD.out) 2
          go_wp2_with fail
          refine bodyPost_ret (results_row_tmp rfl _ _ (w.heap.size+1) [.int .i64 0,.int .i64 0,.slice none 0 0] _ rfl (RowB.range ((((HB4.out.keeps KD.out).set 0 _).set 1 _).set 2 _)) Tryz.underlying83 rfl elimSize) rfl ?_
          exact ⟨_,by rw [HQ.out];rfl,keeps_row3 (HK2.out.trans KD.out) (Nat.le_succ _) _ _ _,(fun h=>absurd (HQ.out.symm.trans h) (by decide)),fun _=>rfl⟩
         have g2':(y.acc == g.rl.r7)=false:=by simpa using g2
         have HG2:=Lib.hid g2
         clear g2
         have HOK:Hid (∀ q∈l.take (k+1),refOk g.rl.r7 items b q=true):=Lib.hid (fun q hq=>by
          rw [take_snoc _ k hlt,HRK.out] at hq
          rcases List.mem_append.1 hq with h | h
          ·exact HW.out.ok q h
          ·rw [List.mem_singleton] at h
           subst h
           exact refOk_4 HQI.out (by rw [HYI.out];exact HG1.out) (by rw [HYI.out];exact HG2.out))
         go_upto_region 9 with fail
         refine wp_region_steps (A:=?_) Keeps [some 68,some 69,some 70,some 71,some 72,some 73,some 74,some 75,some 76,some 77,some 78,some 79,some 80,some 81,some 82,some 83,some 84,some 85,some 86,some 87,some 88,some 89,some 90] [[],[0],[1],[2],[2,3],[2],[2,5],[2,6],[2,7],[2,4,8],[2,9],[10],[11],[11,12],[11],[11,14],[11,15],[11,16],[11,17],[11,18],[11,19],[11,13,20],[11,21]] 23 (by kernel_rfl) (by kernel_rfl) (by kernel_rfl) (by kernel_rfl) (by kernel_rfl) (by kernel_rfl) Keeps.refl (fun _ _ _=>Keeps.trans) ?_ ?_
         rotate_left
         ·intro f;simp only [putL,Act.put,List.setIfInBounds_toArray,List.set_cons_zero,List.set_cons_succ,Nat.zero_add,Nat.reduceAdd];exact rfl
         iterate 23 (all_goals first
          | (refine Steps.pure (v:=?_) Keeps.refl rfl (fun f w' hR hV=>⟨?_,?_⟩) ?_;rotate_left;(focus ((repeat (obtain ⟨hq,hV⟩:=hV;(try replace hq:_=_:=hq)));first | exact want_yes rfl rfl rfl (by assumption) | rfl));(focus ((repeat (obtain ⟨hq,hV⟩:=hV;(try replace hq:_=_:=hq)));obtain ⟨u3,u5,f29,f12⟩:=HCY.out _ ((Keeps.refl wc).drew.trans hR);go_simp;all_goals (try with_reducible rfl))))
          | (refine Steps.skip rfl (fun f w' hR hV=>?_) ?_;(focus ((repeat (obtain ⟨hq,hV⟩:=hV;(try replace hq:_=_:=hq)));first | exact want_no rfl rfl rfl (by assumption) rfl | exact want_undef rfl rfl rfl (by assumption)))))
         all_goals (refine Steps.done [22] (by kernel_rfl) rfl (fun f wd hR hV=>?_);obtain ⟨h22,_⟩:=hV;replace h22:f 22=_:=h22;simp only [h22])
         have KRD:Hid (Keeps wr wd):=Lib.hid (HKI2.out.trans (HKC.out.trans ((Keeps.refl wc).drew.trans hR)))
         obtain ⟨a9,c9,hr9,ho9⟩:=HW.out.box
         have hown9:=own_keepsH ho9 KRD.out
         have HR9:=Lib.hid (hr9.keeps KRD.out)
         have z2:=RowB.cell HR9.out 2 _ rfl
         have hsz9:w5.heap.size≤wd.heap.size:=Nat.le_trans HW.out.sz KRD.out.size
         have hyd:=HYB.out.keeps ((Keeps.refl wc).drew.trans hR)
         have u0:=hyd.cell 0 _ rfl
         have u1:=hyd.cell 1 _ rfl
         have u2:=hyd.cell 2 _ rfl
         have u3:=hyd.cell 3 _ rfl
         have u4:=hyd.cell 4 _ rfl
         have u5:=hyd.cell 5 _ rfl
         have u6:=hyd.cell 6 _ rfl
         have hzd:=World.block_lt_of_cell? _ _ u0
         have hzx:=World.block_lt_of_cell? _ _ z2
         clear hyd hR hr9 ho9
         go_wp2_with (at_builtin;(refine wpList_app_rawR elemItm rfl (.tmp 93) (.tmp 95) rfl (.slice a9 k c9) k _ rfl w5.heap.size hown9 hsz9 y.cells _ 1 rfl rfl rfl (Itm.one y) (by omega) (by omega) ?_);intro v' w9 hown' hg hat;obtain ⟨a10,c10,b10,rfl,_⟩:=Sl.own hown';have r9:=(HR9.out.alloc (.cells #[.int .i64 y.ref.e,.int .i64 y.ref.l,.int .i64 y.ent,.int .i64 y.acc,.int .i64 y.ptn,.int .i64 y.date,.int .i64 y.amt] 53)).kept hg (fun e=>by have:=(hown9.lt _ e.symm).1;omega);have x2:=RowB.cell r9 2 _ rfl;have y2:=RowB.frozen r9 2;have HG:=Lib.hid (And.intro hown' (And.intro hg r9));clear hown' hg hat r9 u0 u1 u2 u3 u4 u5 u6 z2)
         go_roundw
         case rel=>exact ⟨k+1,by omega,by go_num,Lib.hid (icm_step HW.out KRD.out hlt HRK.out HYI.out hown9 HG.out.1 HG.out.2.1 HG.out.2.2 K5.out.size hlt9 HB5.out HOK.out)⟩
         case measure=>simp [intOf];omega
      ·obtain rfl:k=l.length:=by omega
       obtain ⟨a9,c9,hr9,ho9⟩:=HW.out.box
       have z0:=RowB.cell hr9 0 _ rfl
       have z1:=RowB.cell hr9 1 _ rfl
       have z2:=RowB.cell hr9 2 _ rfl
       have x0:=RowB.cell (HB4.out.keeps KW.out) 0 _ rfl
       have x1:=RowB.cell (HB4.out.keeps KW.out) 1 _ rfl
       have x2:=RowB.cell (HB4.out.keeps KW.out) 2 _ rfl
       have y0:=RowB.frozen (HB4.out.keeps KW.out) 0
       have y1:=RowB.frozen (HB4.out.keeps KW.out) 1
       have y2:=RowB.frozen (HB4.out.keeps KW.out) 2
       have HOW:Hid (wr.ownsRow w5.heap.size 53 7 (.slice a9 l.length c9) l.length ((l.map (itemAt items)).flatMap Itm.cells)):=Lib.hid (by rw [List.take_length] at ho9;exact ho9)
       have HQ:Hid (eliB g es hs items b m=true):=Lib.hid (by
        rw [HEL.out,List.all_eq_true]
        have:=HW.out.ok
        rwa [List.take_length] at this)
       have hX5:w.heap.size+1 < w5.heap.size:=by omega
       have hw5:w.heap.size≤w5.heap.size:=by omega
       clear hr9 ho9
       go_wp2_with fail
       refine bodyPost_ret (results_row_tmp rfl _ _ (w.heap.size+1) [.int .i64 m.id,.int .i64 x,.slice a9 l.length c9] _ rfl (RowB.range ((((HB4.out.keeps KW.out).set 0 _).set 1 _).set 2 _)) Tryz.underlying83 rfl elimSize) rfl ?_
       exact ⟨_,by rw [HQ.out];rfl,keeps_row3 (HK2.out.trans KW.out) (Nat.le_succ _) _ _ _,fun _=>⟨a9,c9,by rw [HEM.out];simp only [List.length_map],by rw [HEM.out];simp only [List.length_map];exact own_mono (own_row3 HOW.out hX5) hw5⟩,fun h=>absurd (HQ.out.symm.trans h) (by decide)⟩
  ·have e2:(m.state != 4)=true:=by simp [c2]
   have HQ:Hid (eliB g es hs items b m=false):=Lib.hid (by rw [hel];simp [c2])
   clear hel heM HCC HHF HBG HMO HLN c2 c1
   go_wp2_with (first | (go_at_call 77;guard_hyp HFL:_;(refine (HFL.out _ K3d.out).mono ?_);rintro e1 wl ⟨rfl,hkl⟩;have KL:=Lib.hid (K3d.out.trans hkl);clear HFL hkl x0 x1 x2 y0 y1 y2 m0 m1 m2 m3;have x0:=RowB.cell (HB4.out.keeps KL.out) 0 _ rfl;have x1:=RowB.cell (HB4.out.keeps KL.out) 1 _ rfl;have x2:=RowB.cell (HB4.out.keeps KL.out) 2 _ rfl;have y0:=RowB.frozen (HB4.out.keeps KL.out) 0;have y1:=RowB.frozen (HB4.out.keeps KL.out) 1;have y2:=RowB.frozen (HB4.out.keeps KL.out) 2;obtain ⟨m0,m1,m2,m3⟩:=HCX.out _ KL.out) | (go_at_call 77;guard_hyp KL:_;(refine (HFR.out _ KL.out).mono ?_);rintro e2 wz ⟨rfl,hkz⟩;have K5:=Lib.hid (KL.out.trans hkz);clear hkz x0 x1 x2 y0 y1 y2 m0 m1 m2 m3;have x0:=RowB.cell (HB4.out.keeps K5.out) 0 _ rfl;have x1:=RowB.cell (HB4.out.keeps K5.out) 1 _ rfl;have x2:=RowB.cell (HB4.out.keeps K5.out) 2 _ rfl;have y0:=RowB.frozen (HB4.out.keeps K5.out) 0;have y1:=RowB.frozen (HB4.out.keeps K5.out) 1;have y2:=RowB.frozen (HB4.out.keeps K5.out) 2;obtain ⟨m0,m1,m2,m3⟩:=HCX.out _ K5.out;have hzb:=World.block_lt_of_cell? _ _ m0))
   refine bodyPost_ret (results_row_tmp rfl _ _ (w.heap.size+1) [.int .i64 0,.int .i64 0,.slice none 0 0] _ rfl (RowB.range ((((HB4.out.keeps K3d.out).set 0 _).set 1 _).set 2 _)) Tryz.underlying83 rfl elimSize) rfl ?_
   exact ⟨_,by rw [HQ.out];rfl,keeps_row3 (HK2.out.trans K3d.out) (Nat.le_succ _) _ _ _,(fun h=>absurd (HQ.out.symm.trans h) (by decide)),fun _=>rfl⟩
 ·have e1:(er != 0)=true:=by simp [c1]
  have HQ:Hid (eliB g es hs items b m=false):=Lib.hid (by rw [hel];simp [c1])
  clear hel heM HCC HHF HBG HMO HLN c1
  go_wp2_with (first | (go_at_call 77;guard_hyp HFL:_;(refine (HFL.out _ K3d.out).mono ?_);rintro e1 wl ⟨rfl,hkl⟩;have KL:=Lib.hid (K3d.out.trans hkl);clear HFL hkl x0 x1 x2 y0 y1 y2 m0 m1 m2 m3;have x0:=RowB.cell (HB4.out.keeps KL.out) 0 _ rfl;have x1:=RowB.cell (HB4.out.keeps KL.out) 1 _ rfl;have x2:=RowB.cell (HB4.out.keeps KL.out) 2 _ rfl;have y0:=RowB.frozen (HB4.out.keeps KL.out) 0;have y1:=RowB.frozen (HB4.out.keeps KL.out) 1;have y2:=RowB.frozen (HB4.out.keeps KL.out) 2;obtain ⟨m0,m1,m2,m3⟩:=HCX.out _ KL.out) | (go_at_call 77;guard_hyp KL:_;(refine (HFR.out _ KL.out).mono ?_);rintro e2 wz ⟨rfl,hkz⟩;have K5:=Lib.hid (KL.out.trans hkz);clear hkz x0 x1 x2 y0 y1 y2 m0 m1 m2 m3;have x0:=RowB.cell (HB4.out.keeps K5.out) 0 _ rfl;have x1:=RowB.cell (HB4.out.keeps K5.out) 1 _ rfl;have x2:=RowB.cell (HB4.out.keeps K5.out) 2 _ rfl;have y0:=RowB.frozen (HB4.out.keeps K5.out) 0;have y1:=RowB.frozen (HB4.out.keeps K5.out) 1;have y2:=RowB.frozen (HB4.out.keeps K5.out) 2;obtain ⟨m0,m1,m2,m3⟩:=HCX.out _ K5.out;have hzb:=World.block_lt_of_cell? _ _ m0))
  refine bodyPost_ret (results_row_tmp rfl _ _ (w.heap.size+1) [.int .i64 0,.int .i64 0,.slice none 0 0] _ rfl (RowB.range ((((HB4.out.keeps K3d.out).set 0 _).set 1 _).set 2 _)) Tryz.underlying83 rfl elimSize) rfl ?_
  exact ⟨_,by rw [HQ.out];rfl,keeps_row3 (HK2.out.trans K3d.out) (Nat.le_succ _) _ _ _,(fun h=>absurd (HQ.out.symm.trans h) (by decide)),fun _=>rfl⟩
end Go.Proofs.YtoaidbhiciaeaaaGreat

end
