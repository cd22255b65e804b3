/- Walks and plain facts that the claim rests on (RPrt, RSrt, RPos). No condition. -/
import Derived.Test.YtoaidbhiciaeaaaGreatPo39
import Derived.Test.YtoaidbhiciaeaaaGreatPo47
import Derived.Test.YtoaidbhiciaeaaaGreatPo40
import Derived.Deep.RegionHeld3
import Derived.StillTailTactics
import Derived.Test.YtoaidbhiciaeaaaGreatPo48
import Derived.Test.YtoaidbhiciaeaaaGreatPo42
import Derived.Test.YtoaidbhiciaeaaaGreatPo41
import Derived.Test.YtoaidbhiciaeaaaGreatUn0
set_option linter.unusedSimpArgs false
set_option linter.unusedVariables false
set_option maxHeartbeats 16000000
section
namespace Go.Proofs.YtoaidbhiciaeaaaGreat
open Go.RowKit
theorem flat_dropR {α:Type} {enc:α→List Value} {sz:Nat} (he:∀ a,(enc a).length=sz) (l:List α) (k:Nat):(l.drop k).flatMap enc=(l.flatMap enc).drop (k * sz):=by
 induction l generalizing k with
 | nil=>simp
 | cons x l ih=>
  cases k with
  | zero=>simp
  | succ k=>
   have hx:(enc x).drop ((k+1) * sz)=[]:=List.drop_eq_nil_of_le (by rw [he,Nat.add_mul];omega)
   rw [List.drop_succ_cons,List.flatMap_cons,ih,List.drop_append,he,hx,List.nil_append,show (k+1) * sz - sz=k * sz from by rw [Nat.add_mul];omega]
theorem cell_newy {w:World} {cs:List Value} {ty:TypeId} {B j:Nat} {u:Value} (hB:B=w.heap.size) (hj:cs[j]?=some u):(w.alloc (.cells cs.toArray ty)).cell? ⟨B,j,none⟩=some u:=by
 subst hB
 have:=box_range w cs ty j u hj
 rwa [Nat.zero_add] at this
end Go.Proofs.YtoaidbhiciaeaaaGreat

end
section
namespace Go.Proofs.YtoaidbhiciaeaaaGreat
open Go.RowKit
theorem elemMv:ElemOf Tryz.prog 33 48 (.agg #[.int .i64 0,.slice none 0 0,.slice none 0 0,.int .i64 0]) 4 64:=⟨Tryz.underlying33,by kernel_rfl,rfl,by omega⟩
theorem mv_one (m:MV):∀ v∈m.cells,v.oneCell'=true:=by
 intro v hv
 simp only [MV.cells,List.mem_cons,List.not_mem_nil,or_false] at hv
 rcases hv with rfl | rfl | rfl | rfl <;> rfl
theorem ones_mv (l:List MV):∀ u∈l.flatMap MV.cells,u.oneCell'=true:=fun u hu=>by
 obtain ⟨r,_,hr⟩:=List.mem_flatMap.1 hu
 exact mv_one r u hr
set_option maxRecDepth 100000 in
theorem rsort_any (l:List MV) (ao:Option Addr) (cap b o:Nat) (w:World) (H:Recs w 4 MV.cells ao l cap b o) (hl:l.length≤1000) :
  Calls Tryz.prog 29 #[.slice ao l.length cap] w fun e w'=>∃ v,e=.returned v∧w'.ownsRow w.heap.size 48 4 v (sortM l).length ((sortM l).flatMap MV.cells)∧Keeps w w':=by
 have hcap:=Sl.cap H
 have hle:=Sl.le H
 have HH:=Lib.hid H
 clear H
 go_enter Tryz.func29,Tryz.ntmps29
 go_wp2_with fail
 go_loopw [3,4] (fun vs vi wr=>∃ (k:Nat) (M:List MV),k≤l.length∧M.length≤k∧vi=.int .i64 k∧Hid (M=sortM (l.take k))∧Hid (Keeps w wr∧wr.ownsRow w.heap.size 48 4 vs M.length (M.flatMap MV.cells))) (fun _ vi _=>l.length - (intOf vi).toNat)
 case atStart=>exact ⟨0,[],Nat.zero_le _,Nat.le_refl _,rfl,Lib.hid (by simp [sortM]),Lib.hid ⟨Keeps.refl _,World.ownsRow_nil _ _ _ _⟩⟩
 case round=>
  obtain ⟨k,M,hk,hMl,rfl,HM,HV⟩:=hrel
  obtain ⟨wv,rfl⟩:∃ wv:World,wv=wr:=⟨_,rfl⟩
  by_cases hlt:k < l.length
  ·obtain ⟨ao3,cap3,b3,rfl,hs3⟩:=Sl.own HV.out.2
   have hcap3:=Sl.cap hs3
   have hnM3:=Sl.le hs3
   have HS3:Hid (Recs wv 4 MV.cells ao3 M cap3 b3 0):=Lib.hid hs3
   clear hs3
   have hr:=HH.out.keeps HV.out.1
   have hix:=Sl.at hr Tryz.underlying33 Tryz.sizeOf48 k hlt
   obtain ⟨x,hx⟩:∃ x,l[k]=x:=⟨_,rfl⟩
   have x0:=hr.cell MV.len k hlt 0 (.int .i64 x.x.id) (by rw [hx];rfl)
   have x1:=hr.cell MV.len k hlt 1 (.slice x.al x.x.left.length x.cl) (by rw [hx];rfl)
   have x2:=hr.cell MV.len k hlt 2 (.slice x.ar x.x.right.length x.cr) (by rw [hx];rfl)
   have x3:=hr.cell MV.len k hlt 3 (.int .i64 x.x.state) (by rw [hx];rfl)
   rw [Nat.add_zero] at x0
   have HXC:Hid (∀ W,Keeps wv W→W.cell? ⟨b,o+k * 4,none⟩=some (.int .i64 x.x.id)∧W.cell? ⟨b,o+k * 4+1,none⟩=some (.slice x.al x.x.left.length x.cl)∧W.cell? ⟨b,o+k * 4+2,none⟩=some (.slice x.ar x.x.right.length x.cr)∧W.cell? ⟨b,o+k * 4+3,none⟩=some (.int .i64 x.x.state)):=Lib.hid (fun W hW=>⟨hW.cell x0,hW.cell x1,hW.cell x2,hW.cell x3⟩)
   have HM2:Hid (insM x M=sortM (l.take (k+1))):=Lib.hid (by rw [HM.out,take_snoc _ k hlt,hx,sortM_snoc])
   clear hr hx x0 x1 x2 x3
   go_wp2_with fail
   go_loopw [5] (fun vn w8=>∃ n:Nat,n≤M.length∧vn=.int .i64 n∧Hid (∀ j (hj:j < M.length),j < n→M[j].x.id < x.x.id)∧Hid (Keeps wv w8)) (fun vn _=>M.length - (intOf vn).toNat)
   case atStart=>exact ⟨0,Nat.zero_le _,rfl,Lib.hid (fun j _ h=>absurd h (Nat.not_lt_zero _)),Lib.hid (Keeps.refl _)⟩
   case round=>
    obtain ⟨n,hnM,rfl,HN,HWR⟩:=hrel
    by_cases hn:n < M.length
    ·have e0:decide ((n:Int) < (M.length:Int))=true:=decide_eq_true (by omega)
     have hixn:=Sl.at HS3.out Tryz.underlying33 Tryz.sizeOf48 n hn
     obtain ⟨y,hy⟩:∃ y,M[n]=y:=⟨_,rfl⟩
     have hs:=HS3.out.keeps HWR.out
     have s0:=hs.cell MV.len n hn 0 (.int .i64 y.x.id) (by rw [hy];rfl)
     simp only [Nat.add_zero,Nat.zero_add] at s0 hixn
     have HX:Hid (∀ W,Keeps wr.drew W→W.cell? ⟨b,o+k * 4,none⟩=some (.int .i64 x.x.id)∧W.cell? ⟨b,o+k * 4+1,none⟩=some (.slice x.al x.x.left.length x.cl)∧W.cell? ⟨b,o+k * 4+2,none⟩=some (.slice x.ar x.x.right.length x.cr)∧W.cell? ⟨b,o+k * 4+3,none⟩=some (.int .i64 x.x.state)∧W.cell? ⟨b3,n * 4,none⟩=some (.int .i64 y.x.id)):=Lib.hid (fun W hW=>by
      have hq:=(Keeps.refl wr).drew.trans hW
      obtain ⟨q1,q2,q3,q4⟩:=HXC.out W (HWR.out.trans hq)
      exact ⟨q1,q2,q3,q4,hq.cell s0⟩)
     have HY:=Lib.hid hy
     clear hs hy s0
     by_cases hlx:y.x.id < x.x.id
     ·have e1:decide (y.x.id < x.x.id)=true:=decide_eq_true hlx
      have HN2:Hid (∀ j (hj:j < M.length),j < n+1→M[j].x.id < x.x.id):=Lib.hid (fun j hj h=>by
       by_cases e:j < n
       ·exact HN.out j hj e
       ·obtain rfl:j=n:=by omega
        rw [HY.out];exact hlx)
      clear hlx
      go_upto_region 6 with fail
      refine wp_region_steps (A:=?_) Keeps [some 12,some 13,some 14,some 15,some 16,some 17,some 18,some 19,some 20,some 21,some 22,some 23,some 24,some 25,some 26,some 27,some 28] [[],[],[1],[0,2],[3],[4],[4],[4,5,6],[4,7],[4,8],[4],[4],[4,10,11],[4,12],[4,13],[4,9,14],[4,15]] 17 (by kernel_rfl) (by kernel_rfl) (by kernel_rfl) (by kernel_rfl) (by kernel_rfl) (by kernel_rfl) Keeps.refl (fun _ _ _=>Keeps.trans) ?_ ?_
      rotate_left
      ·intro f;simp only [putL,Act.put,List.setIfInBounds_toArray,List.set_cons_zero,List.set_cons_succ,Nat.zero_add,Nat.reduceAdd];exact rfl
      iterate 17 (all_goals first
       | (refine Steps.pure (v:=?_) Keeps.refl rfl (fun f w' hR hV=>⟨?_,?_⟩) ?_;rotate_left;(focus ((repeat (obtain ⟨hq,hV⟩:=hV;(try replace hq:_=_:=hq)));first | exact want_yes rfl rfl rfl (by assumption) | rfl));(focus ((repeat (obtain ⟨hq,hV⟩:=hV;(try replace hq:_=_:=hq)));obtain ⟨x0,x1,x2,x3,s0⟩:=HX.out _ hR;go_simp;all_goals (try with_reducible rfl))))
       | (refine Steps.skip rfl (fun f w' hR hV=>?_) ?_;(focus ((repeat (obtain ⟨hq,hV⟩:=hV;(try replace hq:_=_:=hq)));first | exact want_no rfl rfl rfl (by assumption) rfl | exact want_undef rfl rfl rfl (by assumption)))))
      all_goals (refine Steps.done [16] (by kernel_rfl) rfl (fun f wz hR hV=>?_);obtain ⟨h16,_⟩:=hV;replace h16:f 16=_:=h16;simp only [h16])
      have HWQ:=Lib.hid (HWR.out.trans ((Keeps.refl wr).drew.trans hR))
      clear hR
      go_wp2_with fail
      go_roundw
      case rel=>exact ⟨n+1,by omega,by go_num,HN2,HWQ⟩
      case measure=>simp [intOf];omega
     ·have e1:decide (y.x.id < x.x.id)=false:=decide_eq_false hlx
      have HP:Hid (insM x M=M.take n ++ x :: M.drop n):=Lib.hid (insM_at hnM (fun j hj h=>HN.out j hj h) (fun h=>by rw [HY.out];exact hlx))
      clear hlx
      go_upto_region 6 with fail
      refine wp_region_steps (A:=?_) Keeps [some 12,some 13,some 14,some 15,some 16,some 17,some 18,some 19,some 20,some 21,some 22,some 23,some 24,some 25,some 26,some 27,some 28] [[],[],[1],[0,2],[3],[4],[4],[4,5,6],[4,7],[4,8],[4],[4],[4,10,11],[4,12],[4,13],[4,9,14],[4,15]] 17 (by kernel_rfl) (by kernel_rfl) (by kernel_rfl) (by kernel_rfl) (by kernel_rfl) (by kernel_rfl) Keeps.refl (fun _ _ _=>Keeps.trans) ?_ ?_
      rotate_left
      ·intro f;simp only [putL,Act.put,List.setIfInBounds_toArray,List.set_cons_zero,List.set_cons_succ,Nat.zero_add,Nat.reduceAdd];exact rfl
      iterate 17 (all_goals first
       | (refine Steps.pure (v:=?_) Keeps.refl rfl (fun f w' hR hV=>⟨?_,?_⟩) ?_;rotate_left;(focus ((repeat (obtain ⟨hq,hV⟩:=hV;(try replace hq:_=_:=hq)));first | exact want_yes rfl rfl rfl (by assumption) | rfl));(focus ((repeat (obtain ⟨hq,hV⟩:=hV;(try replace hq:_=_:=hq)));obtain ⟨x0,x1,x2,x3,s0⟩:=HX.out _ hR;go_simp;all_goals (try with_reducible rfl))))
       | (refine Steps.skip rfl (fun f w' hR hV=>?_) ?_;(focus ((repeat (obtain ⟨hq,hV⟩:=hV;(try replace hq:_=_:=hq)));first | exact want_no rfl rfl rfl (by assumption) rfl | exact want_undef rfl rfl rfl (by assumption)))))
      all_goals (refine Steps.done [16] (by kernel_rfl) rfl (fun f wz hR hV=>?_);obtain ⟨h16,_⟩:=hV;replace h16:f 16=_:=h16;simp only [h16])
      have HKZ:Hid (Keeps wr wz):=Lib.hid ((Keeps.refl wr).drew.trans hR)
      clear hR
      go_wp2_with fail
      have HSZ:Hid (Sl wz 4 ao3 M.length cap3 b3 0 (M.flatMap MV.cells)):=Lib.hid (HS3.out.keeps (HWR.out.trans HKZ.out))
      have HPZ:Hid (∀ W,Keeps wz W→W.cell? ⟨b,o+k * 4,none⟩=some (.int .i64 x.x.id)∧W.cell? ⟨b,o+k * 4+1,none⟩=some (.slice x.al x.x.left.length x.cl)∧W.cell? ⟨b,o+k * 4+2,none⟩=some (.slice x.ar x.x.right.length x.cr)∧W.cell? ⟨b,o+k * 4+3,none⟩=some (.int .i64 x.x.state)):=Lib.hid (fun W hW=>HXC.out W (HWR.out.trans (HKZ.out.trans hW)))
      obtain ⟨ao5,hcf,hs5⟩:=Sl.cutFrom HSZ.out Tryz.underlying33 Tryz.sizeOf48 n hnM
      have hct:=run_cutTo Tryz.underlying33 Tryz.sizeOf48 ao3 M.length cap3 n (by omega) hcap3
      have HS5:=Lib.hid hs5
      have HS1:=Lib.hid (Sl.take HSZ.out n hnM)
      have HO1:Hid (∀ u∈(M.flatMap MV.cells).take (n * 4),u.oneCell'=true):=Lib.hid (fun u hu=>ones_mv M u (List.mem_of_mem_take hu))
      have HO2:Hid (∀ u∈(M.flatMap MV.cells).drop (n * 4),u.oneCell'=true):=Lib.hid (fun u hu=>ones_mv M u (List.mem_of_mem_drop hu))
      clear hs5
      go_region_held3 (fun w'=>w'.cell? ⟨b,o+k * 4,none⟩=some (.int .i64 x.x.id)∧w'.cell? ⟨b,o+k * 4+1,none⟩=some (.slice x.al x.x.left.length x.cl)∧w'.cell? ⟨b,o+k * 4+2,none⟩=some (.slice x.ar x.x.right.length x.cr)∧w'.cell? ⟨b,o+k * 4+3,none⟩=some (.int .i64 x.x.state))
       (first | exact (HPZ.out _ hk3) | exact (HPZ.out _ hk2) | exact (HPZ.out _ hk1) | exact (HPZ.out _ (hk1.alloc _)) | exact (HPZ.out _ (Keeps.refl wz).drew) | exact (HPZ.out _ ((Keeps.refl wz).alloc _).drew) | exact (HPZ.out _ (((Keeps.refl wz).alloc _).alloc _).drew))
       (first | (guard_hyp hown2:_;refine step_all_raw elemMv rfl (.tmp 41) (.tmp 44) rfl v2 (n+1) _ (by rfl) wz.heap.size hown2 hz2 ao5 (M.length - n) (cap3 - n) b3 (0+n * 4) ((M.flatMap MV.cells).drop (n * 4)) (by rfl) (HS5.out.keeps hk2) HO2.out (by omega) (by omega) ?_;intro v3 w3 hown3 hgrow3 hat3;have hk3:Keeps wz w3:=Below.grown hk2 hgrow3 hk2.size (fun j hj=>(hown2.lt j hj).1)) | (guard_hyp hown1:_;refine step_all_raw elemMv rfl (.tmp 35) (.tmp 40) rfl v1 n _ (by rfl) wz.heap.size (by first | exact hown1 | exact hown1.alloc _) (by first | omega | (simp;omega)) _ 1 1 _ 0 [.int .i64 x.x.id,.slice x.al x.x.left.length x.cl,.slice x.ar x.x.right.length x.cr,.int .i64 x.x.state] (by rfl) (by exact Sl.block rfl (fun j u hj=>by first | exact cell_newy (by simp) hj | (exact hgrow1.cell (cell_newy (by simp) hj) (by simp [Act.eval,Value.ownBlock])) | (exact hgrow1.cell (Keeps.cell ((Keeps.refl _).alloc _) (cell_newy (by simp) hj)) (by simp [Act.eval,Value.ownBlock])))) (mv_one x) (by omega) (by omega) ?_;intro v2 w2 hown2 hgrow2 hat2;have hk2:Keeps wz w2:=(by first | exact Below.grown hk1 hgrow2 hk1.size (fun j hj=>(hown1.lt j hj).1) | exact Below.grown (Keeps.alloc hk1 _) hgrow2 (by simp;omega) (fun j hj=>(hown1.lt j hj).1));have hz2:=hk2.size) | (refine step_all_raw elemMv rfl (.tmp 31) (.tmp 34) rfl _ 0 [] (by rfl) wz.heap.size (by first | exact own_emptyx (by simp) (by simp) | exact (own_emptyx (by simp) (by simp)).alloc _) (by first | (simp;done) | (simp;omega)) ao3 n cap3 b3 0 ((M.flatMap MV.cells).take (n * 4)) (by rfl) (by first | exact HS1.out.keeps ((Keeps.refl wz).alloc _).drew | exact HS1.out.keeps (((Keeps.refl wz).alloc _).alloc _).drew) HO1.out (by omega) (by omega) ?_;intro v1 w1 hown1 hgrow1 hat1;rw [Nat.zero_add,List.nil_append] at hown1;have hk1:Keeps wz w1:=(by first | exact Below.grown ((Keeps.refl wz).alloc _).drew hgrow1 (by first | (simp;done) | (simp;omega)) (fun j hj=>by simp [Act.eval,Value.ownBlock] at hj;omega) | exact Below.grown (((Keeps.refl wz).alloc _).alloc _).drew hgrow1 (by first | (simp;done) | (simp;omega)) (fun j hj=>by simp [Act.eval,Value.ownBlock] at hj;omega));have hz1:=hk1.size ))
      all_goals
       have HR3:Hid (w3.ownsRow w.heap.size 48 4 v3 (insM x M).length ((insM x M).flatMap MV.cells)):=Lib.hid (by
        have h:=own_mono hown3 (Nat.le_trans HV.out.1.size (Nat.le_trans HWR.out.size HKZ.out.size))
        rw [show n+1+(M.length - n)=M.length+1 from by omega] at h
        have e1:(insM x M).length=M.length+1:=insM_len x M
        have e2:(insM x M).flatMap MV.cells=(M.flatMap MV.cells).take (n * 4) ++ x.cells ++ (M.flatMap MV.cells).drop (n * 4):=by
         rw [HP.out,List.flatMap_append,List.flatMap_cons,flat_takeR MV.len,flat_dropR MV.len,List.append_assoc]
        rw [e1,e2];exact h)
       have HKK:=Lib.hid hk3
       clear hown1 hgrow1 hat1 hk1 hz1 hown2 hgrow2 hat2 hk2 hz2 hown3 hgrow3 hat3 hk3
       go_wp2_with fail
       go_roundw
       case rel=>exact ⟨k+1,insM x M,by omega,by rw [insM_len];omega,by go_num,HM2,Lib.hid ⟨HV.out.1.trans (HWR.out.trans (HKZ.out.trans HKK.out)),HR3.out⟩⟩
       case measure=>simp [intOf];omega
    ·have e0:decide ((n:Int) < (M.length:Int))=false:=decide_eq_false (by omega)
     have HP:Hid (insM x M=M.take n ++ x :: M.drop n):=Lib.hid (insM_at hnM (fun j hj h=>HN.out j hj h) (fun h=>absurd h hn))
     have HX:Hid (∀ W,Keeps wr.drew W→W.cell? ⟨b,o+k * 4,none⟩=some (.int .i64 x.x.id)∧W.cell? ⟨b,o+k * 4+1,none⟩=some (.slice x.al x.x.left.length x.cl)∧W.cell? ⟨b,o+k * 4+2,none⟩=some (.slice x.ar x.x.right.length x.cr)∧W.cell? ⟨b,o+k * 4+3,none⟩=some (.int .i64 x.x.state)):=Lib.hid (fun W hW=>HXC.out W (HWR.out.trans ((Keeps.refl wr).drew.trans hW)))
     go_upto_region 6 with fail
     refine wp_region_steps (A:=?_) Keeps [some 12,some 13,some 14,some 15,some 16,some 17,some 18,some 19,some 20,some 21,some 22,some 23,some 24,some 25,some 26,some 27,some 28] [[],[],[1],[0,2],[3],[4],[4],[4,5,6],[4,7],[4,8],[4],[4],[4,10,11],[4,12],[4,13],[4,9,14],[4,15]] 17 (by kernel_rfl) (by kernel_rfl) (by kernel_rfl) (by kernel_rfl) (by kernel_rfl) (by kernel_rfl) Keeps.refl (fun _ _ _=>Keeps.trans) ?_ ?_
     rotate_left
     ·intro f;simp only [putL,Act.put,List.setIfInBounds_toArray,List.set_cons_zero,List.set_cons_succ,Nat.zero_add,Nat.reduceAdd];exact rfl
     iterate 17 (all_goals first
      | (refine Steps.pure (v:=?_) Keeps.refl rfl (fun f w' hR hV=>⟨?_,?_⟩) ?_;rotate_left;(focus ((repeat (obtain ⟨hq,hV⟩:=hV;(try replace hq:_=_:=hq)));first | exact want_yes rfl rfl rfl (by assumption) | rfl));(focus ((repeat (obtain ⟨hq,hV⟩:=hV;(try replace hq:_=_:=hq)));obtain ⟨x0,x1,x2,x3⟩:=HX.out _ hR;go_simp;all_goals (try with_reducible rfl))))
      | (refine Steps.skip rfl (fun f w' hR hV=>?_) ?_;(focus ((repeat (obtain ⟨hq,hV⟩:=hV;(try replace hq:_=_:=hq)));first | exact want_no rfl rfl rfl (by assumption) rfl | exact want_undef rfl rfl rfl (by assumption)))))
     all_goals (refine Steps.done [16] (by kernel_rfl) rfl (fun f wz hR hV=>?_);obtain ⟨h16,_⟩:=hV;replace h16:f 16=_:=h16;simp only [h16])
     have HKZ:Hid (Keeps wr wz):=Lib.hid ((Keeps.refl wr).drew.trans hR)
     clear hR
     go_wp2_with fail
     have HSZ:Hid (Sl wz 4 ao3 M.length cap3 b3 0 (M.flatMap MV.cells)):=Lib.hid (HS3.out.keeps (HWR.out.trans HKZ.out))
     have HPZ:Hid (∀ W,Keeps wz W→W.cell? ⟨b,o+k * 4,none⟩=some (.int .i64 x.x.id)∧W.cell? ⟨b,o+k * 4+1,none⟩=some (.slice x.al x.x.left.length x.cl)∧W.cell? ⟨b,o+k * 4+2,none⟩=some (.slice x.ar x.x.right.length x.cr)∧W.cell? ⟨b,o+k * 4+3,none⟩=some (.int .i64 x.x.state)):=Lib.hid (fun W hW=>HXC.out W (HWR.out.trans (HKZ.out.trans hW)))
     obtain ⟨ao5,hcf,hs5⟩:=Sl.cutFrom HSZ.out Tryz.underlying33 Tryz.sizeOf48 n hnM
     have hct:=run_cutTo Tryz.underlying33 Tryz.sizeOf48 ao3 M.length cap3 n (by omega) hcap3
     have HS5:=Lib.hid hs5
     have HS1:=Lib.hid (Sl.take HSZ.out n hnM)
     have HO1:Hid (∀ u∈(M.flatMap MV.cells).take (n * 4),u.oneCell'=true):=Lib.hid (fun u hu=>ones_mv M u (List.mem_of_mem_take hu))
     have HO2:Hid (∀ u∈(M.flatMap MV.cells).drop (n * 4),u.oneCell'=true):=Lib.hid (fun u hu=>ones_mv M u (List.mem_of_mem_drop hu))
     clear hs5
     go_region_held3 (fun w'=>w'.cell? ⟨b,o+k * 4,none⟩=some (.int .i64 x.x.id)∧w'.cell? ⟨b,o+k * 4+1,none⟩=some (.slice x.al x.x.left.length x.cl)∧w'.cell? ⟨b,o+k * 4+2,none⟩=some (.slice x.ar x.x.right.length x.cr)∧w'.cell? ⟨b,o+k * 4+3,none⟩=some (.int .i64 x.x.state))
      (first | exact (HPZ.out _ hk3) | exact (HPZ.out _ hk2) | exact (HPZ.out _ hk1) | exact (HPZ.out _ (hk1.alloc _)) | exact (HPZ.out _ (Keeps.refl wz).drew) | exact (HPZ.out _ ((Keeps.refl wz).alloc _).drew) | exact (HPZ.out _ (((Keeps.refl wz).alloc _).alloc _).drew))
      (first | (guard_hyp hown2:_;refine step_all_raw elemMv rfl (.tmp 41) (.tmp 44) rfl v2 (n+1) _ (by rfl) wz.heap.size hown2 hz2 ao5 (M.length - n) (cap3 - n) b3 (0+n * 4) ((M.flatMap MV.cells).drop (n * 4)) (by rfl) (HS5.out.keeps hk2) HO2.out (by omega) (by omega) ?_;intro v3 w3 hown3 hgrow3 hat3;have hk3:Keeps wz w3:=Below.grown hk2 hgrow3 hk2.size (fun j hj=>(hown2.lt j hj).1)) | (guard_hyp hown1:_;refine step_all_raw elemMv rfl (.tmp 35) (.tmp 40) rfl v1 n _ (by rfl) wz.heap.size (by first | exact hown1 | exact hown1.alloc _) (by first | omega | (simp;omega)) _ 1 1 _ 0 [.int .i64 x.x.id,.slice x.al x.x.left.length x.cl,.slice x.ar x.x.right.length x.cr,.int .i64 x.x.state] (by rfl) (by exact Sl.block rfl (fun j u hj=>by first | exact cell_newy (by simp) hj | (exact hgrow1.cell (cell_newy (by simp) hj) (by simp [Act.eval,Value.ownBlock])) | (exact hgrow1.cell (Keeps.cell ((Keeps.refl _).alloc _) (cell_newy (by simp) hj)) (by simp [Act.eval,Value.ownBlock])))) (mv_one x) (by omega) (by omega) ?_;intro v2 w2 hown2 hgrow2 hat2;have hk2:Keeps wz w2:=(by first | exact Below.grown hk1 hgrow2 hk1.size (fun j hj=>(hown1.lt j hj).1) | exact Below.grown (Keeps.alloc hk1 _) hgrow2 (by simp;omega) (fun j hj=>(hown1.lt j hj).1));have hz2:=hk2.size) | (refine step_all_raw elemMv rfl (.tmp 31) (.tmp 34) rfl _ 0 [] (by rfl) wz.heap.size (by first | exact own_emptyx (by simp) (by simp) | exact (own_emptyx (by simp) (by simp)).alloc _) (by first | (simp;done) | (simp;omega)) ao3 n cap3 b3 0 ((M.flatMap MV.cells).take (n * 4)) (by rfl) (by first | exact HS1.out.keeps ((Keeps.refl wz).alloc _).drew | exact HS1.out.keeps (((Keeps.refl wz).alloc _).alloc _).drew) HO1.out (by omega) (by omega) ?_;intro v1 w1 hown1 hgrow1 hat1;rw [Nat.zero_add,List.nil_append] at hown1;have hk1:Keeps wz w1:=(by first | exact Below.grown ((Keeps.refl wz).alloc _).drew hgrow1 (by first | (simp;done) | (simp;omega)) (fun j hj=>by simp [Act.eval,Value.ownBlock] at hj;omega) | exact Below.grown (((Keeps.refl wz).alloc _).alloc _).drew hgrow1 (by first | (simp;done) | (simp;omega)) (fun j hj=>by simp [Act.eval,Value.ownBlock] at hj;omega));have hz1:=hk1.size ))
     all_goals
      have HR3:Hid (w3.ownsRow w.heap.size 48 4 v3 (insM x M).length ((insM x M).flatMap MV.cells)):=Lib.hid (by
       have h:=own_mono hown3 (Nat.le_trans HV.out.1.size (Nat.le_trans HWR.out.size HKZ.out.size))
       rw [show n+1+(M.length - n)=M.length+1 from by omega] at h
       have e1:(insM x M).length=M.length+1:=insM_len x M
       have e2:(insM x M).flatMap MV.cells=(M.flatMap MV.cells).take (n * 4) ++ x.cells ++ (M.flatMap MV.cells).drop (n * 4):=by
        rw [HP.out,List.flatMap_append,List.flatMap_cons,flat_takeR MV.len,flat_dropR MV.len,List.append_assoc]
       rw [e1,e2];exact h)
      have HKK:=Lib.hid hk3
      clear hown1 hgrow1 hat1 hk1 hz1 hown2 hgrow2 hat2 hk2 hz2 hown3 hgrow3 hat3 hk3
      go_wp2_with fail
      go_roundw
      case rel=>exact ⟨k+1,insM x M,by omega,by rw [insM_len];omega,by go_num,HM2,Lib.hid ⟨HV.out.1.trans (HWR.out.trans (HKZ.out.trans HKK.out)),HR3.out⟩⟩
      case measure=>simp [intOf];omega
  ·obtain rfl:k=l.length:=by omega
   have HMS:Hid (M=sortM l):=Lib.hid (by rw [HM.out,List.take_length])
   go_wp2_with fail
   go_ret
   rw [← HMS.out]
   exact ⟨_,rfl,HV.out.2,HV.out.1⟩
end Go.Proofs.YtoaidbhiciaeaaaGreat

end
section
namespace Go.Proofs.YtoaidbhiciaeaaaGreat
open Go.RowKit
def ISl (W:World) (N:Nat) (own:List Itm) (v:Value):Prop:=∃ a c,v=.slice a own.length c∧W.ownsRow N 53 7 v own.length (own.flatMap Itm.cells)
def ITp (W:World) (N:Nat) (own:List Itm) (v:Value):Prop:=∃ u,v=.tuple #[u,.bool true]∧ISl W N own u
theorem ISl.keeps {W W':World} {N:Nat} {own:List Itm} {v:Value} (h:ISl W N own v) (k:Keeps W W'):ISl W' N own v:=by
 obtain ⟨a,c,e,h1⟩:=h
 exact ⟨a,c,e,own_keepsH h1 k⟩
theorem ITp.keeps {W W':World} {N:Nat} {own:List Itm} {v:Value} (h:ITp W N own v) (k:Keeps W W'):ITp W' N own v:=by
 obtain ⟨u,e,h1⟩:=h
 exact ⟨u,e,h1.keeps k⟩
theorem ISl.of {W W0:World} {N:Nat} {own:List Itm} {v:Value} (h:W.ownsRow W0.heap.size 53 7 v own.length (own.flatMap Itm.cells)) (hN:N≤W0.heap.size):ISl W N own v:=by
 obtain ⟨a,c,b,e,_⟩:=Sl.own h
 exact ⟨a,c,e,own_mono h hN⟩
theorem own_lit1R {w:World} {base e size:Nat} {cs:List Value} (hb:base≤w.heap.size) (hl:cs.length=size):(w.alloc (.cells cs.toArray e)).ownsRow base e size (.slice (some ⟨w.heap.size,0,none⟩) 1 1) 1 cs:=
 ⟨by omega,.inr ⟨w.heap.size,1,cs.toArray,rfl,hb,heap_alloc_new w _,Nat.le_refl 1,by unfold maxLen;omega,by simp [hl],by rw [Nat.one_mul];exact List.take_of_length_le (Nat.le_of_eq hl)⟩⟩
end Go.Proofs.YtoaidbhiciaeaaaGreat

end
