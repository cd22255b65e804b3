/- Walks and plain facts that the claim rests on (RPrt). No condition. -/
import Derived.Test.YtoaidbhiciaeaaaGreatPo39
import Derived.Test.YtoaidbhiciaeaaaGreatPo47
import Derived.Test.YtoaidbhiciaeaaaGreatPo40
import Derived.Deep.RegionHeld3
import Derived.StillTailTactics
set_option linter.unusedSimpArgs false
set_option linter.unusedVariables false
set_option maxHeartbeats 16000000
section
namespace Go.Proofs.YtoaidbhiciaeaaaGreat
open Go.RowKit
theorem flat_dropR {α:Type} {enc:α→List Value} {sz:Nat} (he:∀ a,(enc a).length=sz) (l:List α) (k:Nat):(l.drop k).flatMap enc=(l.flatMap enc).drop (k * sz):=by
 induction l generalizing k with
 | nil=>simp
 | cons x l ih=>
  cases k with
  | zero=>simp
  | succ k=>
   have hx:(enc x).drop ((k+1) * sz)=[]:=List.drop_eq_nil_of_le (by rw [he,Nat.add_mul];omega)
   rw [List.drop_succ_cons,List.flatMap_cons,ih,List.drop_append,he,hx,List.nil_append,show (k+1) * sz - sz=k * sz from by rw [Nat.add_mul];omega]
theorem cell_newy {w:World} {cs:List Value} {ty:TypeId} {B j:Nat} {u:Value} (hB:B=w.heap.size) (hj:cs[j]?=some u):(w.alloc (.cells cs.toArray ty)).cell? ⟨B,j,none⟩=some u:=by
 subst hB
 have:=box_range w cs ty j u hj
 rwa [Nat.zero_add] at this
theorem ones_prt (l:List Prt):∀ u∈l.flatMap Prt.cells,u.oneCell'=true:=fun u hu=>by
 obtain ⟨r,_,hr⟩:=List.mem_flatMap.1 hu
 exact Prt.one r u hr
theorem flat_setP:∀ (M:List Prt) (n:Nat) (S:Int) (hn:n < M.length),(M.flatMap Prt.cells).set (n * 2+1) (.int .i64 S)=(M.set n ⟨M[n].acc,S⟩).flatMap Prt.cells
 | y :: t,0,S,_=>by simp [Prt.cells]
 | y :: t,n+1,S,h=>by
  have ih:=flat_setP t n S (by simpa using h)
  rw [List.flatMap_cons,show (n+1) * 2+1=n * 2+1+1+1 from by omega]
  simp only [Prt.cells,List.cons_append,List.nil_append,List.set_cons_succ,List.getElem_cons_succ,List.flatMap_cons]
  rw [ih]
theorem own_atP {w:World} {base e size n cap b:Nat} {ao:Option Addr} {xs:List Value} (h:w.ownsRow base e size (.slice ao n cap) n xs) (hs:Sl w size ao n cap b 0 xs) (hn:0 < n):ao=some ⟨b,0,none⟩∧base≤b∧∀ j,w.frozen? ⟨b,j,none⟩=false:=by
 obtain ⟨g,c,he,h1,_,h3⟩:=own_shapeH h hn
 have ha:=hs.addr hn
 cases he
 cases ha
 exact ⟨rfl,h1,h3⟩
theorem sumsR_mem {l:List Prt}:∀ x∈sumsR l,x.amt=psumP l x.acc:=fun x hx=>by
 rw [sumsR_eq] at hx
 obtain ⟨c,_,rfl⟩:=List.mem_map.1 hx
 rfl
theorem ramt_any (n:Int) (w:World):Calls Tryz.prog 54 #[.int .i64 n] w fun e w'=>e=.returned (.bool (amtB n))∧w=w':=by
 by_cases h1:-1000000000000≤n <;> by_cases h2:n≤1000000000000
 all_goals
  unfold amtB
  go_enter Tryz.func54,Tryz.ntmps54
  go_wp2_with fail
  go_ret
  simp [h1,h2]
set_option maxRecDepth 100000 in
theorem rparts_any (l:List Prt) (ao:Option Addr) (cap b o:Nat) (w:World) (H:Recs w 2 Prt.cells ao l cap b o) (hl:l.length≤1000) (hB:∀ k c,k≤l.length→-9000000000000000000≤psumP (l.take k) c∧psumP (l.take k) c≤9000000000000000000) :
  Calls Tryz.prog 31 #[.slice ao l.length cap] w fun e w'=>∃ v,e=.returned (.tuple #[v,.bool (partsR l).2])∧w'.ownsRow w.heap.size 63 2 v (partsR l).1.length ((partsR l).1.flatMap Prt.cells)∧Keeps w w':=by
 have hcap:=Sl.cap H
 have hle:=Sl.le H
 have HH:=Lib.hid H
 have HBD:=Lib.hid hB
 clear H hB
 go_enter Tryz.func31,Tryz.ntmps31
 go_wp2_with fail
 go_loopw [4,5] (fun vs vi wr=>∃ (k:Nat) (M:List Prt),k≤l.length∧M.length≤k∧vi=.int .i64 k∧Hid (M=sumsR (l.take k))∧Hid (Keeps w wr∧wr.ownsRow w.heap.size 63 2 vs M.length (M.flatMap Prt.cells))) (fun _ vi _=>l.length - (intOf vi).toNat)
 case atStart=>exact ⟨0,[],Nat.zero_le _,Nat.le_refl _,rfl,Lib.hid (by simp [sumsR]),Lib.hid ⟨Keeps.refl _,World.ownsRow_nil _ _ _ _⟩⟩
 case round=>
  obtain ⟨k,M,hk,hMl,rfl,HM,HV⟩:=hrel
  obtain ⟨wv,rfl⟩:∃ wv:World,wv=wr:=⟨_,rfl⟩
  obtain ⟨ao3,cap3,b3,rfl,hs3⟩:=Sl.own HV.out.2
  have hcap3:=Sl.cap hs3
  have hnM3:=Sl.le hs3
  have HS3:Hid (Recs wv 2 Prt.cells ao3 M cap3 b3 0):=Lib.hid hs3
  clear hs3
  by_cases hlt:k < l.length
  ·have hr:=HH.out.keeps HV.out.1
   have hix:=Sl.at hr Tryz.underlying57 Tryz.sizeOf63 k hlt
   obtain ⟨x,hx⟩:∃ x,l[k]=x:=⟨_,rfl⟩
   have x0:=hr.cell Prt.len k hlt 0 (.int .i64 x.acc) (by rw [hx];rfl)
   have x1:=hr.cell Prt.len k hlt 1 (.int .i64 x.amt) (by rw [hx];rfl)
   rw [Nat.add_zero] at x0
   have HXC:Hid (∀ W,Keeps wv W→W.cell? ⟨b,o+k * 2,none⟩=some (.int .i64 x.acc)∧W.cell? ⟨b,o+k * 2+1,none⟩=some (.int .i64 x.amt)):=Lib.hid (fun W hW=>⟨hW.cell x0,hW.cell x1⟩)
   have HM2:Hid (insP x M=sumsR (l.take (k+1))):=Lib.hid (by rw [HM.out,take_snoc _ k hlt,hx,sumsR_snoc])
   have HIL:Hid ((insP x M).length≤M.length+1):=Lib.hid (insP_len x M)
   have HBX:Hid (∀ y∈M,y.acc=x.acc→-9000000000000000000≤y.amt+x.amt∧y.amt+x.amt≤9000000000000000000):=Lib.hid (fun y hy he=>by
    have h1:y.amt=psumP (l.take k) y.acc:=by rw [HM.out] at hy;exact sumsR_mem y hy
    have h2:=HBD.out (k+1) x.acc (by omega)
    rw [take_snoc _ k hlt,hx,psumP_snoc,if_pos rfl,← he,← h1] at h2
    exact h2)
   clear hr hx x0 x1
   go_wp2_with fail
   go_loopw [6] (fun vn w8=>∃ n:Nat,n≤M.length∧vn=.int .i64 n∧Hid (∀ j (hj:j < M.length),j < n→M[j].acc < x.acc)∧Hid (Keeps wv w8)) (fun vn _=>M.length - (intOf vn).toNat)
   case atStart=>exact ⟨0,Nat.zero_le _,rfl,Lib.hid (fun j _ h=>absurd h (Nat.not_lt_zero _)),Lib.hid (Keeps.refl _)⟩
   case round=>
    obtain ⟨n,hnM,rfl,HN,HWR⟩:=hrel
    by_cases hn:n < M.length
    ·have e0:decide ((n:Int) < (M.length:Int))=true:=decide_eq_true (by omega)
     have hixn:=Sl.at HS3.out Tryz.underlying57 Tryz.sizeOf63 n hn
     obtain ⟨y,hy⟩:∃ y,M[n]=y:=⟨_,rfl⟩
     have hs:=HS3.out.keeps HWR.out
     have s0:=hs.cell Prt.len n hn 0 (.int .i64 y.acc) (by rw [hy];rfl)
     have s1:=hs.cell Prt.len n hn 1 (.int .i64 y.amt) (by rw [hy];rfl)
     simp only [Nat.add_zero,Nat.zero_add] at s0 s1 hixn
     have HX:Hid (∀ W,Keeps wr.drew W→W.cell? ⟨b,o+k * 2,none⟩=some (.int .i64 x.acc)∧W.cell? ⟨b,o+k * 2+1,none⟩=some (.int .i64 x.amt)∧W.cell? ⟨b3,n * 2,none⟩=some (.int .i64 y.acc)∧W.cell? ⟨b3,n * 2+1,none⟩=some (.int .i64 y.amt)):=Lib.hid (fun W hW=>by
      have hq:=(Keeps.refl wr).drew.trans hW
      obtain ⟨q1,q2⟩:=HXC.out W (HWR.out.trans hq)
      exact ⟨q1,q2,hq.cell s0,hq.cell s1⟩)
     have HY:=Lib.hid hy
     clear hs hy s0 s1
     by_cases hlx:y.acc < x.acc
     ·have e1:decide (y.acc < x.acc)=true:=decide_eq_true hlx
      have HN2:Hid (∀ j (hj:j < M.length),j < n+1→M[j].acc < x.acc):=Lib.hid (fun j hj h=>by
       by_cases e:j < n
       ·exact HN.out j hj e
       ·obtain rfl:j=n:=by omega
        rw [HY.out];exact hlx)
      clear hlx
      go_upto_region 6 with fail
      refine wp_region_steps (A:=?_) Keeps [some 15,some 16,some 17,some 18,some 19,some 20,some 21,some 22,some 23,some 24,some 25,some 26,some 27,some 28,some 29,some 30,some 31] [[],[],[1],[0,2],[3],[4],[4],[4,5,6],[4,7],[4,8],[4],[4],[4,10,11],[4,12],[4,13],[4,9,14],[4,15]] 17 (by kernel_rfl) (by kernel_rfl) (by kernel_rfl) (by kernel_rfl) (by kernel_rfl) (by kernel_rfl) Keeps.refl (fun _ _ _=>Keeps.trans) ?_ ?_
      rotate_left
      ·intro f;simp only [putL,Act.put,List.setIfInBounds_toArray,List.set_cons_zero,List.set_cons_succ,Nat.zero_add,Nat.reduceAdd];exact rfl
      iterate 17 (all_goals first
       | (refine Steps.pure (v:=?_) Keeps.refl rfl (fun f w' hR hV=>⟨?_,?_⟩) ?_;rotate_left;(focus ((repeat (obtain ⟨hq,hV⟩:=hV;(try replace hq:_=_:=hq)));first | exact want_yes rfl rfl rfl (by assumption) | rfl));(focus ((repeat (obtain ⟨hq,hV⟩:=hV;(try replace hq:_=_:=hq)));obtain ⟨x0,x1,s0,s1⟩:=HX.out _ hR;go_simp;all_goals (try with_reducible rfl))))
       | (refine Steps.skip rfl (fun f w' hR hV=>?_) ?_;(focus ((repeat (obtain ⟨hq,hV⟩:=hV;(try replace hq:_=_:=hq)));first | exact want_no rfl rfl rfl (by assumption) rfl | exact want_undef rfl rfl rfl (by assumption)))))
      all_goals (refine Steps.done [16] (by kernel_rfl) rfl (fun f wq hR hV=>?_);obtain ⟨h16,_⟩:=hV;replace h16:f 16=_:=h16;simp only [h16])
      have HWQ:=Lib.hid (HWR.out.trans ((Keeps.refl wr).drew.trans hR))
      clear hR
      go_wp2_with fail
      go_roundw
      case rel=>exact ⟨n+1,by omega,by go_num,HN2,HWQ⟩
      case measure=>simp [intOf];omega
     ·have e1:decide (y.acc < x.acc)=false:=decide_eq_false hlx
      have hat:=insP_at (x:=x) (l:=M) (k:=n) hnM (fun j hj h=>HN.out j hj h) (fun h=>by rw [HY.out];exact hlx)
      rw [List.getElem?_eq_getElem hn,HY.out] at hat
      simp only at hat
      clear hlx
      go_upto_region 6 with fail
      refine wp_region_steps (A:=?_) Keeps [some 15,some 16,some 17,some 18,some 19,some 20,some 21,some 22,some 23,some 24,some 25,some 26,some 27,some 28,some 29,some 30,some 31] [[],[],[1],[0,2],[3],[4],[4],[4,5,6],[4,7],[4,8],[4],[4],[4,10,11],[4,12],[4,13],[4,9,14],[4,15]] 17 (by kernel_rfl) (by kernel_rfl) (by kernel_rfl) (by kernel_rfl) (by kernel_rfl) (by kernel_rfl) Keeps.refl (fun _ _ _=>Keeps.trans) ?_ ?_
      rotate_left
      ·intro f;simp only [putL,Act.put,List.setIfInBounds_toArray,List.set_cons_zero,List.set_cons_succ,Nat.zero_add,Nat.reduceAdd];exact rfl
      iterate 17 (all_goals first
       | (refine Steps.pure (v:=?_) Keeps.refl rfl (fun f w' hR hV=>⟨?_,?_⟩) ?_;rotate_left;(focus ((repeat (obtain ⟨hq,hV⟩:=hV;(try replace hq:_=_:=hq)));first | exact want_yes rfl rfl rfl (by assumption) | rfl));(focus ((repeat (obtain ⟨hq,hV⟩:=hV;(try replace hq:_=_:=hq)));obtain ⟨x0,x1,s0,s1⟩:=HX.out _ hR;go_simp;all_goals (try with_reducible rfl))))
       | (refine Steps.skip rfl (fun f w' hR hV=>?_) ?_;(focus ((repeat (obtain ⟨hq,hV⟩:=hV;(try replace hq:_=_:=hq)));first | exact want_no rfl rfl rfl (by assumption) rfl | exact want_undef rfl rfl rfl (by assumption)))))
      all_goals (refine Steps.done [16] (by kernel_rfl) rfl (fun f wq hR hV=>?_);obtain ⟨h16,_⟩:=hV;replace h16:f 16=_:=h16;simp only [h16])
      have HKQ:Hid (Keeps wr.drew wq.drew):=Lib.hid hR.drew
      clear hR
      by_cases hex:y.acc=x.acc
      ·have e2:(y.acc == x.acc)=true:=by simpa using hex
       have HP:=Lib.hid (hat.trans (if_pos hex))
       have hbx:=HBX.out y (by rw [← HY.out];exact List.getElem_mem hn) hex
       have hw1:wrap64 (y.amt+x.amt)=y.amt+x.amt:=IntWalk.wrap64_in _ (by omega)
       have hw2:IntKind.i64.wrap (y.amt+x.amt)=y.amt+x.amt:=IntWalk.i64_in _ (by omega)
       clear hat hex hbx
       go_upto_region 8 with fail
       refine wp_region_steps (A:=?_) Keeps [some 34,some 35,some 36,some 37,some 38,some 39,some 40,some 41,some 42,some 43,some 44,some 45,some 46,some 47,some 48,some 49,some 50] [[],[],[1],[0,2],[3],[4],[4],[4,5,6],[4,7],[4,8],[4],[4],[4,10,11],[4,12],[4,13],[4,9,14],[4,15]] 17 (by kernel_rfl) (by kernel_rfl) (by kernel_rfl) (by kernel_rfl) (by kernel_rfl) (by kernel_rfl) Keeps.refl (fun _ _ _=>Keeps.trans) ?_ ?_
       rotate_left
       ·intro f;simp only [putL,Act.put,List.setIfInBounds_toArray,List.set_cons_zero,List.set_cons_succ,Nat.zero_add,Nat.reduceAdd];exact rfl
       iterate 17 (all_goals first
        | (refine Steps.pure (v:=?_) Keeps.refl rfl (fun f w' hR hV=>⟨?_,?_⟩) ?_;rotate_left;(focus ((repeat (obtain ⟨hq,hV⟩:=hV;(try replace hq:_=_:=hq)));first | exact want_yes rfl rfl rfl (by assumption) | rfl));(focus ((repeat (obtain ⟨hq,hV⟩:=hV;(try replace hq:_=_:=hq)));obtain ⟨x0,x1,s0,s1⟩:=HX.out _ (HKQ.out.trans hR);go_simp;all_goals (try with_reducible rfl))))
        | (refine Steps.skip rfl (fun f w' hR hV=>?_) ?_;(focus ((repeat (obtain ⟨hq,hV⟩:=hV;(try replace hq:_=_:=hq)));first | exact want_no rfl rfl rfl (by assumption) rfl | exact want_undef rfl rfl rfl (by assumption)))))
       all_goals (refine Steps.done [16] (by kernel_rfl) rfl (fun f wz hR hV=>?_);obtain ⟨h16,_⟩:=hV;replace h16:f 16=_:=h16;simp only [h16])
       have HKZ:Hid (Keeps wr wz):=Lib.hid ((Keeps.refl wr).drew.trans (HKQ.out.trans hR))
       obtain ⟨x0,x1,s0,s1⟩:=HX.out _ (HKQ.out.trans hR)
       have HOZ:=Lib.hid (own_keepsH HV.out.2 (HWR.out.trans HKZ.out))
       obtain ⟨rfl,hbb,hfz0⟩:=own_atP HOZ.out (HS3.out.keeps (HWR.out.trans HKZ.out)) (by omega)
       have hfz:=hfz0 (n * 2+1)
       clear hR hfz0 HX
       go_upto_region 9 with fail
       go_still_tail 13,(by kernel_rfl)
       change wpList _ _ _ _ _ wz.drew
       go_wp2_with fail
       go_roundw
       case rel=>
        refine ⟨k+1,insP x M,by omega,by have:=HIL.out;omega,by go_num,HM2,Lib.hid ⟨?_,?_⟩⟩
        ·exact ((HV.out.1.trans (HWR.out.trans HKZ.out)).setCell (p:=⟨b3,n * 2+1,none⟩) hbb _).drew
        ·have h:=own_setH HOZ.out (n * 2+1) (.int .i64 (y.amt+x.amt))
         rw [flat_setP M n _ hn,HY.out,← HP.out] at h
         have h2:(insP x M).length=M.length:=by rw [HP.out,List.length_set]
         rw [h2]
         exact own_keepsH h (Keeps.refl _).drew
       case measure=>simp [intOf];omega
      ·have e2:(y.acc == x.acc)=false:=by simpa using hex
       have HP:Hid (insP x M=M.take n ++ x :: M.drop n):=Lib.hid (hat.trans (if_neg hex))
       clear hat hex
       go_upto_region 8 with fail
       refine wp_region_steps (A:=?_) Keeps [some 34,some 35,some 36,some 37,some 38,some 39,some 40,some 41,some 42,some 43,some 44,some 45,some 46,some 47,some 48,some 49,some 50] [[],[],[1],[0,2],[3],[4],[4],[4,5,6],[4,7],[4,8],[4],[4],[4,10,11],[4,12],[4,13],[4,9,14],[4,15]] 17 (by kernel_rfl) (by kernel_rfl) (by kernel_rfl) (by kernel_rfl) (by kernel_rfl) (by kernel_rfl) Keeps.refl (fun _ _ _=>Keeps.trans) ?_ ?_
       rotate_left
       ·intro f;simp only [putL,Act.put,List.setIfInBounds_toArray,List.set_cons_zero,List.set_cons_succ,Nat.zero_add,Nat.reduceAdd];exact rfl
       iterate 17 (all_goals first
        | (refine Steps.pure (v:=?_) Keeps.refl rfl (fun f w' hR hV=>⟨?_,?_⟩) ?_;rotate_left;(focus ((repeat (obtain ⟨hq,hV⟩:=hV;(try replace hq:_=_:=hq)));first | exact want_yes rfl rfl rfl (by assumption) | rfl));(focus ((repeat (obtain ⟨hq,hV⟩:=hV;(try replace hq:_=_:=hq)));obtain ⟨x0,x1,s0,s1⟩:=HX.out _ (HKQ.out.trans hR);go_simp;all_goals (try with_reducible rfl))))
        | (refine Steps.skip rfl (fun f w' hR hV=>?_) ?_;(focus ((repeat (obtain ⟨hq,hV⟩:=hV;(try replace hq:_=_:=hq)));first | exact want_no rfl rfl rfl (by assumption) rfl | exact want_undef rfl rfl rfl (by assumption)))))
       all_goals (refine Steps.done [16] (by kernel_rfl) rfl (fun f wz hR hV=>?_);obtain ⟨h16,_⟩:=hV;replace h16:f 16=_:=h16;simp only [h16])
       have HKZ:Hid (Keeps wr wz):=Lib.hid ((Keeps.refl wr).drew.trans (HKQ.out.trans hR))
       clear hR
       go_wp2_with fail
       have HSZ:Hid (Sl wz 2 ao3 M.length cap3 b3 0 (M.flatMap Prt.cells)):=Lib.hid (HS3.out.keeps (HWR.out.trans HKZ.out))
       have HPZ:Hid (∀ W,Keeps wz W→W.cell? ⟨b,o+k * 2,none⟩=some (.int .i64 x.acc)∧W.cell? ⟨b,o+k * 2+1,none⟩=some (.int .i64 x.amt)):=Lib.hid (fun W hW=>HXC.out W (HWR.out.trans (HKZ.out.trans hW)))
       obtain ⟨ao5,hcf,hs5⟩:=Sl.cutFrom HSZ.out Tryz.underlying57 Tryz.sizeOf63 n hnM
       have hct:=run_cutTo Tryz.underlying57 Tryz.sizeOf63 ao3 M.length cap3 n (by omega) hcap3
       have HS5:=Lib.hid hs5
       have HS1:=Lib.hid (Sl.take HSZ.out n hnM)
       have HO1:Hid (∀ u∈(M.flatMap Prt.cells).take (n * 2),u.oneCell'=true):=Lib.hid (fun u hu=>ones_prt M u (List.mem_of_mem_take hu))
       have HO2:Hid (∀ u∈(M.flatMap Prt.cells).drop (n * 2),u.oneCell'=true):=Lib.hid (fun u hu=>ones_prt M u (List.mem_of_mem_drop hu))
       clear hs5
       go_region_held3 (fun w'=>w'.cell? ⟨b,o+k * 2,none⟩=some (.int .i64 x.acc)∧w'.cell? ⟨b,o+k * 2+1,none⟩=some (.int .i64 x.amt))
        (first | exact (HPZ.out _ hk3) | exact (HPZ.out _ hk2) | exact (HPZ.out _ hk1) | exact (HPZ.out _ (hk1.alloc _)) | exact (HPZ.out _ (Keeps.refl wz).drew) | exact (HPZ.out _ ((Keeps.refl wz).alloc _).drew) | exact (HPZ.out _ (((Keeps.refl wz).alloc _).alloc _).drew))
        (first | (guard_hyp hown2:_;refine step_all_raw elemPrt rfl (.tmp 74) (.tmp 77) rfl v2 (n+1) _ (by rfl) wz.heap.size hown2 hz2 ao5 (M.length - n) (cap3 - n) b3 (0+n * 2) ((M.flatMap Prt.cells).drop (n * 2)) (by rfl) (HS5.out.keeps hk2) HO2.out (by omega) (by omega) ?_;intro v3 w3 hown3 hgrow3 hat3;have hk3:Keeps wz w3:=Below.grown hk2 hgrow3 hk2.size (fun j hj=>(hown2.lt j hj).1)) | (guard_hyp hown1:_;refine step_all_raw elemPrt rfl (.tmp 68) (.tmp 73) rfl v1 n _ (by rfl) wz.heap.size (by first | exact hown1 | exact hown1.alloc _) (by first | omega | (simp;omega)) _ 1 1 _ 0 [.int .i64 x.acc,.int .i64 x.amt] (by rfl) (by exact Sl.block rfl (fun j u hj=>by first | exact cell_newy (by simp) hj | (exact hgrow1.cell (cell_newy (by simp) hj) (by simp [Act.eval,Value.ownBlock])) | (exact hgrow1.cell (Keeps.cell ((Keeps.refl _).alloc _) (cell_newy (by simp) hj)) (by simp [Act.eval,Value.ownBlock])))) (Prt.one x) (by omega) (by omega) ?_;intro v2 w2 hown2 hgrow2 hat2;have hk2:Keeps wz w2:=(by first | exact Below.grown hk1 hgrow2 hk1.size (fun j hj=>(hown1.lt j hj).1) | exact Below.grown (Keeps.alloc hk1 _) hgrow2 (by simp;omega) (fun j hj=>(hown1.lt j hj).1));have hz2:=hk2.size) | (refine step_all_raw elemPrt rfl (.tmp 64) (.tmp 67) rfl _ 0 [] (by rfl) wz.heap.size (by first | exact own_emptyx (by simp) (by simp) | exact (own_emptyx (by simp) (by simp)).alloc _) (by first | (simp;done) | (simp;omega)) ao3 n cap3 b3 0 ((M.flatMap Prt.cells).take (n * 2)) (by rfl) (by first | exact HS1.out.keeps ((Keeps.refl wz).alloc _).drew | exact HS1.out.keeps (((Keeps.refl wz).alloc _).alloc _).drew) HO1.out (by omega) (by omega) ?_;intro v1 w1 hown1 hgrow1 hat1;rw [Nat.zero_add,List.nil_append] at hown1;have hk1:Keeps wz w1:=(by first | exact Below.grown ((Keeps.refl wz).alloc _).drew hgrow1 (by first | (simp;done) | (simp;omega)) (fun j hj=>by simp [Act.eval,Value.ownBlock] at hj;omega) | exact Below.grown (((Keeps.refl wz).alloc _).alloc _).drew hgrow1 (by first | (simp;done) | (simp;omega)) (fun j hj=>by simp [Act.eval,Value.ownBlock] at hj;omega));have hz1:=hk1.size ))
       all_goals
        have HR3:Hid (w3.ownsRow w.heap.size 63 2 v3 (insP x M).length ((insP x M).flatMap Prt.cells)):=Lib.hid (by
         have h:=own_mono hown3 (Nat.le_trans HV.out.1.size (Nat.le_trans HWR.out.size HKZ.out.size))
         rw [show n+1+(M.length - n)=M.length+1 from by omega] at h
         have e1:(insP x M).length=M.length+1:=by rw [HP.out,List.length_append,List.length_cons,List.length_take,List.length_drop];omega
         have e2:(insP x M).flatMap Prt.cells=(M.flatMap Prt.cells).take (n * 2) ++ x.cells ++ (M.flatMap Prt.cells).drop (n * 2):=by
          rw [HP.out,List.flatMap_append,List.flatMap_cons,flat_takeR Prt.len,flat_dropR Prt.len,List.append_assoc]
         rw [e1,e2];exact h)
        have HKK:=Lib.hid hk3
        clear hown1 hgrow1 hat1 hk1 hz1 hown2 hgrow2 hat2 hk2 hz2 hown3 hgrow3 hat3 hk3
        go_wp2_with fail
        go_roundw
        case rel=>exact ⟨k+1,insP x M,by omega,by have:=HIL.out;omega,by go_num,HM2,Lib.hid ⟨HV.out.1.trans (HWR.out.trans (HKZ.out.trans HKK.out)),HR3.out⟩⟩
        case measure=>simp [intOf];omega
    ·have e0:decide ((n:Int) < (M.length:Int))=false:=decide_eq_false (by omega)
     have HP:Hid (insP x M=M.take n ++ x :: M.drop n):=Lib.hid (by
      obtain rfl:n=M.length:=by omega
      have hat:=insP_at (x:=x) (l:=M) (k:=M.length) (Nat.le_refl _) (fun j hj h=>HN.out j hj h) (fun h=>absurd h (Nat.lt_irrefl _))
      rw [List.getElem?_eq_none (Nat.le_refl _)] at hat
      rw [List.take_length,List.drop_length]
      exact hat)
     have HX:Hid (∀ W,Keeps wr.drew W→W.cell? ⟨b,o+k * 2,none⟩=some (.int .i64 x.acc)∧W.cell? ⟨b,o+k * 2+1,none⟩=some (.int .i64 x.amt)):=Lib.hid (fun W hW=>HXC.out W (HWR.out.trans ((Keeps.refl wr).drew.trans hW)))
     go_upto_region 6 with fail
     refine wp_region_steps (A:=?_) Keeps [some 15,some 16,some 17,some 18,some 19,some 20,some 21,some 22,some 23,some 24,some 25,some 26,some 27,some 28,some 29,some 30,some 31] [[],[],[1],[0,2],[3],[4],[4],[4,5,6],[4,7],[4,8],[4],[4],[4,10,11],[4,12],[4,13],[4,9,14],[4,15]] 17 (by kernel_rfl) (by kernel_rfl) (by kernel_rfl) (by kernel_rfl) (by kernel_rfl) (by kernel_rfl) Keeps.refl (fun _ _ _=>Keeps.trans) ?_ ?_
     rotate_left
     ·intro f;simp only [putL,Act.put,List.setIfInBounds_toArray,List.set_cons_zero,List.set_cons_succ,Nat.zero_add,Nat.reduceAdd];exact rfl
     iterate 17 (all_goals first
      | (refine Steps.pure (v:=?_) Keeps.refl rfl (fun f w' hR hV=>⟨?_,?_⟩) ?_;rotate_left;(focus ((repeat (obtain ⟨hq,hV⟩:=hV;(try replace hq:_=_:=hq)));first | exact want_yes rfl rfl rfl (by assumption) | rfl));(focus ((repeat (obtain ⟨hq,hV⟩:=hV;(try replace hq:_=_:=hq)));obtain ⟨x0,x1⟩:=HX.out _ hR;go_simp;all_goals (try with_reducible rfl))))
      | (refine Steps.skip rfl (fun f w' hR hV=>?_) ?_;(focus ((repeat (obtain ⟨hq,hV⟩:=hV;(try replace hq:_=_:=hq)));first | exact want_no rfl rfl rfl (by assumption) rfl | exact want_undef rfl rfl rfl (by assumption)))))
     all_goals (refine Steps.done [16] (by kernel_rfl) rfl (fun f wq hR hV=>?_);obtain ⟨h16,_⟩:=hV;replace h16:f 16=_:=h16;simp only [h16])
     have HKQ:Hid (Keeps wr.drew wq.drew):=Lib.hid hR.drew
     clear hR
     go_upto_region 8 with fail
     refine wp_region_steps (A:=?_) Keeps [some 34,some 35,some 36,some 37,some 38,some 39,some 40,some 41,some 42,some 43,some 44,some 45,some 46,some 47,some 48,some 49,some 50] [[],[],[1],[0,2],[3],[4],[4],[4,5,6],[4,7],[4,8],[4],[4],[4,10,11],[4,12],[4,13],[4,9,14],[4,15]] 17 (by kernel_rfl) (by kernel_rfl) (by kernel_rfl) (by kernel_rfl) (by kernel_rfl) (by kernel_rfl) Keeps.refl (fun _ _ _=>Keeps.trans) ?_ ?_
     rotate_left
     ·intro f;simp only [putL,Act.put,List.setIfInBounds_toArray,List.set_cons_zero,List.set_cons_succ,Nat.zero_add,Nat.reduceAdd];exact rfl
     iterate 17 (all_goals first
      | (refine Steps.pure (v:=?_) Keeps.refl rfl (fun f w' hR hV=>⟨?_,?_⟩) ?_;rotate_left;(focus ((repeat (obtain ⟨hq,hV⟩:=hV;(try replace hq:_=_:=hq)));first | exact want_yes rfl rfl rfl (by assumption) | rfl));(focus ((repeat (obtain ⟨hq,hV⟩:=hV;(try replace hq:_=_:=hq)));obtain ⟨x0,x1⟩:=HX.out _ (HKQ.out.trans hR);go_simp;all_goals (try with_reducible rfl))))
      | (refine Steps.skip rfl (fun f w' hR hV=>?_) ?_;(focus ((repeat (obtain ⟨hq,hV⟩:=hV;(try replace hq:_=_:=hq)));first | exact want_no rfl rfl rfl (by assumption) rfl | exact want_undef rfl rfl rfl (by assumption)))))
     all_goals (refine Steps.done [16] (by kernel_rfl) rfl (fun f wz hR hV=>?_);obtain ⟨h16,_⟩:=hV;replace h16:f 16=_:=h16;simp only [h16])
     have HKZ:Hid (Keeps wr wz):=Lib.hid ((Keeps.refl wr).drew.trans (HKQ.out.trans hR))
     clear hR
     go_wp2_with fail
     have HSZ:Hid (Sl wz 2 ao3 M.length cap3 b3 0 (M.flatMap Prt.cells)):=Lib.hid (HS3.out.keeps (HWR.out.trans HKZ.out))
     have HPZ:Hid (∀ W,Keeps wz W→W.cell? ⟨b,o+k * 2,none⟩=some (.int .i64 x.acc)∧W.cell? ⟨b,o+k * 2+1,none⟩=some (.int .i64 x.amt)):=Lib.hid (fun W hW=>HXC.out W (HWR.out.trans (HKZ.out.trans hW)))
     obtain ⟨ao5,hcf,hs5⟩:=Sl.cutFrom HSZ.out Tryz.underlying57 Tryz.sizeOf63 n hnM
     have hct:=run_cutTo Tryz.underlying57 Tryz.sizeOf63 ao3 M.length cap3 n (by omega) hcap3
     have HS5:=Lib.hid hs5
     have HS1:=Lib.hid (Sl.take HSZ.out n hnM)
     have HO1:Hid (∀ u∈(M.flatMap Prt.cells).take (n * 2),u.oneCell'=true):=Lib.hid (fun u hu=>ones_prt M u (List.mem_of_mem_take hu))
     have HO2:Hid (∀ u∈(M.flatMap Prt.cells).drop (n * 2),u.oneCell'=true):=Lib.hid (fun u hu=>ones_prt M u (List.mem_of_mem_drop hu))
     clear hs5
     go_region_held3 (fun w'=>w'.cell? ⟨b,o+k * 2,none⟩=some (.int .i64 x.acc)∧w'.cell? ⟨b,o+k * 2+1,none⟩=some (.int .i64 x.amt))
      (first | exact (HPZ.out _ hk3) | exact (HPZ.out _ hk2) | exact (HPZ.out _ hk1) | exact (HPZ.out _ (hk1.alloc _)) | exact (HPZ.out _ (Keeps.refl wz).drew) | exact (HPZ.out _ ((Keeps.refl wz).alloc _).drew) | exact (HPZ.out _ (((Keeps.refl wz).alloc _).alloc _).drew))
      (first | (guard_hyp hown2:_;refine step_all_raw elemPrt rfl (.tmp 74) (.tmp 77) rfl v2 (n+1) _ (by rfl) wz.heap.size hown2 hz2 ao5 (M.length - n) (cap3 - n) b3 (0+n * 2) ((M.flatMap Prt.cells).drop (n * 2)) (by rfl) (HS5.out.keeps hk2) HO2.out (by omega) (by omega) ?_;intro v3 w3 hown3 hgrow3 hat3;have hk3:Keeps wz w3:=Below.grown hk2 hgrow3 hk2.size (fun j hj=>(hown2.lt j hj).1)) | (guard_hyp hown1:_;refine step_all_raw elemPrt rfl (.tmp 68) (.tmp 73) rfl v1 n _ (by rfl) wz.heap.size (by first | exact hown1 | exact hown1.alloc _) (by first | omega | (simp;omega)) _ 1 1 _ 0 [.int .i64 x.acc,.int .i64 x.amt] (by rfl) (by exact Sl.block rfl (fun j u hj=>by first | exact cell_newy (by simp) hj | (exact hgrow1.cell (cell_newy (by simp) hj) (by simp [Act.eval,Value.ownBlock])) | (exact hgrow1.cell (Keeps.cell ((Keeps.refl _).alloc _) (cell_newy (by simp) hj)) (by simp [Act.eval,Value.ownBlock])))) (Prt.one x) (by omega) (by omega) ?_;intro v2 w2 hown2 hgrow2 hat2;have hk2:Keeps wz w2:=(by first | exact Below.grown hk1 hgrow2 hk1.size (fun j hj=>(hown1.lt j hj).1) | exact Below.grown (Keeps.alloc hk1 _) hgrow2 (by simp;omega) (fun j hj=>(hown1.lt j hj).1));have hz2:=hk2.size) | (refine step_all_raw elemPrt rfl (.tmp 64) (.tmp 67) rfl _ 0 [] (by rfl) wz.heap.size (by first | exact own_emptyx (by simp) (by simp) | exact (own_emptyx (by simp) (by simp)).alloc _) (by first | (simp;done) | (simp;omega)) ao3 n cap3 b3 0 ((M.flatMap Prt.cells).take (n * 2)) (by rfl) (by first | exact HS1.out.keeps ((Keeps.refl wz).alloc _).drew | exact HS1.out.keeps (((Keeps.refl wz).alloc _).alloc _).drew) HO1.out (by omega) (by omega) ?_;intro v1 w1 hown1 hgrow1 hat1;rw [Nat.zero_add,List.nil_append] at hown1;have hk1:Keeps wz w1:=(by first | exact Below.grown ((Keeps.refl wz).alloc _).drew hgrow1 (by first | (simp;done) | (simp;omega)) (fun j hj=>by simp [Act.eval,Value.ownBlock] at hj;omega) | exact Below.grown (((Keeps.refl wz).alloc _).alloc _).drew hgrow1 (by first | (simp;done) | (simp;omega)) (fun j hj=>by simp [Act.eval,Value.ownBlock] at hj;omega));have hz1:=hk1.size ))
     all_goals
      have HR3:Hid (w3.ownsRow w.heap.size 63 2 v3 (insP x M).length ((insP x M).flatMap Prt.cells)):=Lib.hid (by
       have h:=own_mono hown3 (Nat.le_trans HV.out.1.size (Nat.le_trans HWR.out.size HKZ.out.size))
       rw [show n+1+(M.length - n)=M.length+1 from by omega] at h
       have e1:(insP x M).length=M.length+1:=by rw [HP.out,List.length_append,List.length_cons,List.length_take,List.length_drop];omega
       have e2:(insP x M).flatMap Prt.cells=(M.flatMap Prt.cells).take (n * 2) ++ x.cells ++ (M.flatMap Prt.cells).drop (n * 2):=by
        rw [HP.out,List.flatMap_append,List.flatMap_cons,flat_takeR Prt.len,flat_dropR Prt.len,List.append_assoc]
       rw [e1,e2];exact h)
      have HKK:=Lib.hid hk3
      clear hown1 hgrow1 hat1 hk1 hz1 hown2 hgrow2 hat2 hk2 hz2 hown3 hgrow3 hat3 hk3
      go_wp2_with fail
      go_roundw
      case rel=>exact ⟨k+1,insP x M,by omega,by have:=HIL.out;omega,by go_num,HM2,Lib.hid ⟨HV.out.1.trans (HWR.out.trans (HKZ.out.trans HKK.out)),HR3.out⟩⟩
      case measure=>simp [intOf];omega
  ·obtain rfl:k=l.length:=by omega
   have HMS:Hid (M=sumsR l):=Lib.hid (by rw [HM.out,List.take_length])
   obtain ⟨wr0,rfl⟩:∃ z:World,z=wv:=⟨_,rfl⟩
   go_wp2_with fail
   go_loopw [7,8] (fun vo vj w8=>∃ (j:Nat) (F:List Prt),j≤M.length∧F.length≤j∧vj=.int .i64 j∧Hid (F=(M.take j).filter (fun x=>x.amt != 0))∧Hid (∀ y∈M.take j,amtB y.amt=true)∧Hid (Keeps wr0 w8∧w8.ownsRow wr0.heap.size 63 2 vo F.length (F.flatMap Prt.cells))) (fun _ vj _=>M.length - (intOf vj).toNat)
   case atStart=>exact ⟨0,[],Nat.zero_le _,Nat.le_refl _,rfl,Lib.hid (by simp),Lib.hid (by simp),Lib.hid ⟨Keeps.refl _,World.ownsRow_nil _ _ _ _⟩⟩
   case round=>
    obtain ⟨j,F,hj,hFl,rfl,HF,HAL,HW⟩:=hrel
    by_cases hjl:j < M.length
    ·have hs:=HS3.out.keeps HW.out.1
     have hixn:=Sl.at HS3.out Tryz.underlying57 Tryz.sizeOf63 j hjl
     obtain ⟨y,hy⟩:∃ y,M[j]=y:=⟨_,rfl⟩
     have s0:=hs.cell Prt.len j hjl 0 (.int .i64 y.acc) (by rw [hy];rfl)
     have s1:=hs.cell Prt.len j hjl 1 (.int .i64 y.amt) (by rw [hy];rfl)
     simp only [Nat.add_zero,Nat.zero_add] at s0 s1 hixn
     have hzs:=World.block_lt_of_cell? _ _ s0
     have HTK:Hid (M.take (j+1)=M.take j ++ [y]):=Lib.hid (by rw [take_snoc _ j hjl,hy])
     have HYM:Hid (y∈M):=Lib.hid (by rw [← hy];exact List.getElem_mem hjl)
     have HAM:Hid (∀ W,Calls Tryz.prog 54 #[.int .i64 y.amt] W fun e w'=>e=.returned (.bool (amtB y.amt))∧W=w'):=Lib.hid (fun W=>ramt_any y.amt W)
     clear hs hy
     cases hq:amtB y.amt with
     | false=>
      have HPR:Hid (partsR l=([],false)):=Lib.hid (by
       unfold partsR
       rw [← HMS.out,if_neg]
       rw [List.all_eq_true]
       intro h
       have:=h y HYM.out
       rw [hq] at this
       cases this)
      rw [hq] at HAM
      clear hq
      go_wp2_with (go_at_call 54;(refine (HAM.out _).mono ?_);rintro e5 w5 ⟨rfl,rfl⟩)
      refine bodyPost_ret (results_tmp2 rfl _ _ _) rfl ?_
      rw [HPR.out]
      exact ⟨_,rfl,World.ownsRow_nil _ _ _ _,HV.out.1.trans HW.out.1⟩
     | true=>
      have HAL2:Hid (∀ z∈M.take (j+1),amtB z.amt=true):=Lib.hid (fun z hz=>by
       rw [HTK.out] at hz
       rcases List.mem_append.1 hz with h | h
       ·exact HAL.out z h
       ·rw [List.mem_singleton] at h;rw [h];exact hq)
      rw [hq] at HAM
      clear hq
      by_cases h0:y.amt=0
      ·have e3:(y.amt != 0)=false:=by simp [h0]
       have HF2:Hid (F=(M.take (j+1)).filter (fun x=>x.amt != 0)):=Lib.hid (by rw [HTK.out,List.filter_append,← HF.out];simp [h0])
       clear h0
       go_wp2_with (go_at_call 54;(refine (HAM.out _).mono ?_);rintro e5 w5 ⟨rfl,rfl⟩)
       go_roundw
       case rel=>exact ⟨j+1,F,by omega,by omega,by go_num,HF2,HAL2,HW⟩
       case measure=>simp [intOf];omega
      ·have e3:(y.amt != 0)=true:=by simpa using h0
       have HF2:Hid (F ++ [y]=(M.take (j+1)).filter (fun x=>x.amt != 0)):=Lib.hid (by rw [HTK.out,List.filter_append,← HF.out];simp [h0])
       clear h0
       go_wp2_with (first | (go_at_call 54;(refine (HAM.out _).mono ?_);rintro e5 w5 ⟨rfl,rfl⟩) | (at_builtin;(refine wpList_appx elemPrt rfl (.tmp 98) (.tmp 103) rfl wr0 _ F.length _ rfl wr0.heap.size HW.out.2 HW.out.1 HW.out.1.size y.cells _ 1 rfl (by simp) rfl (Prt.one y) (by omega) (by omega) ?_);intro v' w' hown' hb' hsz';have HXX:Hid (Keeps wr0 w'∧w'.ownsRow wr0.heap.size 63 2 v' (F ++ [y]).length ((F ++ [y]).flatMap Prt.cells)):=Lib.hid ⟨hb',by rw [List.length_append,List.flatMap_append,List.flatMap_singleton];exact hown'⟩;clear hown' hb' hsz'))
       go_roundw
       case rel=>exact ⟨j+1,F ++ [y],by omega,by rw [List.length_append,List.length_singleton];omega,by go_num,HF2,HAL2,HXX⟩
       case measure=>simp [intOf];omega
    ·obtain rfl:j=M.length:=by omega
     have HPR:Hid (partsR l=(F,true)):=Lib.hid (by
      have h1:=HAL.out
      have h2:=HF.out
      rw [List.take_length] at h1 h2
      unfold partsR
      rw [← HMS.out,if_pos (List.all_eq_true.2 h1),h2])
     go_wp2_with fail
     refine bodyPost_ret (results_tmp2 rfl _ _ _) rfl ?_
     rw [HPR.out]
     exact ⟨_,rfl,own_mono HW.out.2 HV.out.1.size,HV.out.1.trans HW.out.1⟩
end Go.Proofs.YtoaidbhiciaeaaaGreat

end
