/- Walks and plain facts that the claim rests on (IcE). No condition. -/
import Derived.Test.YtoaidbhiciaeaaaGreatPo41
import Derived.Test.YtoaidbhiciaeaaaGreatPo16
import Derived.Test.YtoaidbhiciaeaaaGreatUn0
set_option linter.unusedSimpArgs false
set_option linter.unusedVariables false
set_option maxHeartbeats 16000000
section
namespace Go.Proofs.YtoaidbhiciaeaaaGreat
open Go.RowKit
theorem find_noneE {X:List Eli} {i:Int} (h:∀ j (hj:j < X.length),X[j].id≠i):X.find? (fun x=>x.id == i)=none:=List.find?_eq_none.2 fun x hx=>by
 obtain ⟨j,hj,rfl⟩:=List.getElem_of_mem hx
 simpa using h j hj
theorem find_atE {X:List Eli} {i:Int} {k:Nat} (hk:k < X.length) (h:∀ j (hj:j < X.length),j < k→X[j].id≠i) (he:X[k].id=i):X.find? (fun x=>x.id == i)=some X[k]:=by
 rw [List.find?_eq_some_iff_getElem]
 exact ⟨by simpa using he,k,hk,rfl,fun j hj=>by simpa using h j (by omega) hj⟩
set_option maxRecDepth 100000 in
theorem iremI_any (bv:List Value) (g:Grp) (es:List JV) (hs:List Hol) (ms:List MV) (items:List Itm) (p i:Int) (ao:Option Addr) (cap b o:Nat) (w:World) (H:BkG w bv g es hs ms) (HI:Recs w 7 Itm.cells ao items cap b o) (SM:SmallB g es hs ms items) (hA:∀ x∈items,x.OkA) :
  Calls Tryz.prog 16 #[.agg bv.toArray,.slice ao items.length cap,.int .i64 i,.int .i64 p] w fun e w'=>e=.returned (.tuple #[.int .i64 (remF g es hs ms items p i).1,.int .i64 (remF g es hs ms items p i).2.1,.int .i64 (remF g es hs ms items p i).2.2])∧Keeps w w':=by
 obtain ⟨er,her⟩:∃ q,errI g es hs ms p=q:=⟨_,rfl⟩
 have HN:Hid (Calls Tryz.prog 25 #[.agg bv.toArray,.slice ao items.length cap,.int .i64 p] (w.alloc (.cells bv.toArray 36)) fun e w'=>∃ v,e=.returned (.tuple #[v,.int .i64 er])∧Keeps (w.alloc (.cells bv.toArray 36)) w'∧(er=0→∃ B mb,v=.pointer (some ⟨B,0,none⟩)∧Fin w' B mb bv items (dayA g p) (dayB g p))):=Lib.hid (by
  have:=finder_any bv g es hs ms items p ao cap b o _ (H.keeps ((Keeps.refl w).alloc (.cells bv.toArray 36))) (HI.keeps ((Keeps.refl w).alloc (.cells bv.toArray 36))) SM
  rw [her] at this
  exact this)
 have HBL:=Lib.hid H.bks.len
 have hrg:=box_range w bv 36
 have hk0:Keeps w (w.alloc (.cells bv.toArray 36)):=(Keeps.refl w).alloc _
 have hz1:w.heap.size+1=(w.alloc (.cells bv.toArray 36)).heap.size:=by simp
 obtain ⟨W1,hW1⟩:∃ W1,w.alloc (.cells bv.toArray 36)=W1:=⟨_,rfl⟩
 rw [hW1] at hrg hk0 HN hz1
 have HW1:=Lib.hid hk0
 have HRG:Hid (∀ W,Keeps W1 W→W.rangeAt w.heap.size 0 bv):=Lib.hid (fun W hk=>range_keeps hrg hk)
 have HB:=Lib.hid H
 have HSM:=Lib.hid SM
 have HAI:=Lib.hid hA
 have hml:=SM.mlen
 clear H HI SM hrg hk0 hA
 by_cases h0:er=0
 ·subst h0
  have HE:=Lib.hid (rfl:(0:Int)=0)
  have HPF1:Hid (∀ x,(elisS g es hs ms items p).find? (fun x=>x.id == i)=some x→remF g es hs ms items p i=(totS x.own,remA g (dayA g p) x.own,0)):=Lib.hid (fun x hx=>by unfold remF;rw [if_pos her,hx])
  have HPF0:Hid ((elisS g es hs ms items p).find? (fun x=>x.id == i)=none→remF g es hs ms items p i=(0,0,8)):=Lib.hid (fun hx=>by unfold remF;rw [if_pos her,hx])
  have HAM:=Lib.hid (errI_zero her).2.2
  have hel:=elisS_len g es hs ms items p
  clear her
  go_enter Tryz.func16,Tryz.ntmps16
  go_upto_region 1 with fail
  try rw [hW1]
  try rw [hz1]
  clear hW1 hz1
  go_wp2_with (first | (refine wpList_rowG 36 _ rfl rfl w.heap.size bv _ rfl (HRG.out _ (Keeps.refl W1)) Tryz.underlying36 rfl (by rw [HBL.out];exact booksSize) ?_) | (go_at_call 25;(refine (HN.out).mono ?_);rintro e1 w1 ⟨v1,rfl,hk1,hf1⟩;obtain ⟨B,mb,rfl,hfin⟩:=hf1 HE.out;have K1:=Lib.hid (HW1.out.trans hk1);have HFI:=Lib.hid hfin;clear hk1 hf1 hfin) | (go_at_call 26;(refine (fall_any bv g es hs ms items B mb _ _ w1 HFI.out (HB.out.keeps K1.out) HSM.out HAM.out).mono ?_);rintro e2 w2 ⟨ts,ao2,cap2,b2,rfl,hs2,hi2,hx2,hk2⟩;have K2:=Lib.hid (K1.out.trans hk2);have HF2:=Lib.hid (HFI.out.keeps hk2);have HS2:=Lib.hid hs2;have HI2:=Lib.hid hi2;have HX2:Hid (ts.map EV.x=elisS g es hs ms items p):=Lib.hid hx2;have hcap2:=Sl.cap hs2;have hle2:=Sl.le hs2;clear hs2 hi2 hx2 hk2))
  have htl:ts.length=(elisS g es hs ms items p).length:=by
   have:=congrArg List.length HX2.out
   rwa [List.length_map] at this
  have htb:ts.length≤1000:=by omega
  have HTL:=Lib.hid htl
  clear htl hel
  go_loopw [27] (fun vi wr=>∃ k:Nat,k≤ts.length∧vi=.int .i64 k∧Hid (∀ j (hj:j < (elisS g es hs ms items p).length),j < k→(elisS g es hs ms items p)[j].id≠i)∧Hid (Keeps w2 wr)) (fun vi _=>ts.length - (intOf vi).toNat)
  case atStart=>exact ⟨0,Nat.zero_le _,rfl,Lib.hid (fun j _ h=>absurd h (Nat.not_lt_zero _)),Lib.hid (Keeps.refl _)⟩
  case round=>
   obtain ⟨k,hk,rfl,HN,HKR⟩:=hrel
   have KW:=Lib.hid (K2.out.trans HKR.out)
   by_cases hlt:k < ts.length
   ·have hr:=HS2.out.keeps HKR.out
    have hix:=Sl.at hr Tryz.underlying80 Tryz.sizeOf83 k hlt
    obtain ⟨y,hyk⟩:∃ y,ts[k]=y:=⟨_,rfl⟩
    have c0:=hr.cell EV.len k hlt 0 (.int .i64 y.x.id) (by rw [hyk];rfl)
    have c1:=hr.cell EV.len k hlt 1 (.int .i64 y.x.left) (by rw [hyk];rfl)
    have c2:=hr.cell EV.len k hlt 2 (.slice y.a y.x.own.length y.c) (by rw [hyk];rfl)
    simp only [Nat.add_zero,Nat.zero_add] at c0 c1 c2 hix
    have HLX:Hid (k < (elisS g es hs ms items p).length):=Lib.hid (by have:=HTL.out;omega)
    have hyx:(elisS g es hs ms items p)[k]'HLX.out=y.x:=by
     have:(ts.map EV.x)[k]'(by rw [List.length_map];exact hlt)=y.x:=by rw [List.getElem_map,hyk]
     rw [← this]
     congr 1
     exact HX2.out.symm
    have HYX:=Lib.hid hyx
    have hym:y.x∈elisS g es hs ms items p:=by rw [← hyx];exact List.getElem_mem ..
    have hyr:eliD.rec1 w2 y:=HI2.out y (by rw [← hyk];exact List.getElem_mem ..)
    have HRM:Hid (Calls Tryz.prog 36 #[.pointer (some ⟨B,0,none⟩),.agg #[.int .i64 y.x.id,.int .i64 y.x.left,.slice y.a y.x.own.length y.c]] (wr.alloc (.cells #[.int .i64 y.x.id,.int .i64 y.x.left,.slice y.a y.x.own.length y.c] 83)) fun e w'=>e=.returned (.tuple #[.int .i64 (totS y.x.own),.int .i64 (remA g (dayA g p) y.x.own)])∧Keeps (wr.alloc (.cells #[.int .i64 y.x.id,.int .i64 y.x.left,.slice y.a y.x.own.length y.c] 83)) w'):=Lib.hid (
     frem_any bv g es hs ms items B mb _ _ y.x.id y.x.left y.x.own y.a y.c y.b 0 _ (HF2.out.keeps (HKR.out.alloc _)) (HB.out.keeps (KW.out.alloc _)) (Sl.keeps hyr (HKR.out.alloc _)) (own_len HSM.out.sides hym) (fun i hi=>HAI.out i (own_items hym i hi)))
    clear hr hyk hyx hym hyr
    by_cases hid:y.x.id=i
    ·have e1:(y.x.id == i)=true:=by simpa using hid
     have HBD:Hid (remF g es hs ms items p i=(totS y.x.own,remA g (dayA g p) y.x.own,0)):=Lib.hid (by
      have:=HPF1.out _ (find_atE HLX.out HN.out (by rw [HYX.out];exact hid))
      rw [HYX.out] at this
      exact this)
     clear hid
     go_wp2_with (go_at_call 36;(refine (HRM.out).mono ?_);rintro e5 w5 ⟨rfl,hk5⟩;have K5:=Lib.hid (((Keeps.refl wr).alloc (.cells #[.int .i64 y.x.id,.int .i64 y.x.left,.slice y.a y.x.own.length y.c] 83)).trans hk5);clear hk5)
     refine bodyPost_ret (results_tmp3 rfl _ _ _) rfl ?_
     rw [HBD.out]
     exact ⟨rfl,KW.out.trans K5.out⟩
    ·have e1:(y.x.id == i)=false:=by simpa using hid
     have HN2:Hid (∀ j (hj:j < (elisS g es hs ms items p).length),j < k+1→(elisS g es hs ms items p)[j].id≠i):=Lib.hid (fun j hj h=>by
      by_cases e:j < k
      ·exact HN.out j hj e
      ·obtain rfl:j=k:=by omega
       rw [HYX.out];exact hid)
     clear hid
     go_wp2_with fail
     go_roundw
     case rel=>exact ⟨k+1,by omega,by go_num,HN2,Lib.hid (HKR.out.alloc _)⟩
     case measure=>simp [intOf];omega
   ·obtain rfl:k=ts.length:=by omega
    have HBD:Hid (remF g es hs ms items p i=(0,0,8)):=Lib.hid (HPF0.out (find_noneE (fun j hj=>HN.out j hj (by rw [HTL.out];exact hj))))
    go_wp2_with fail
    refine bodyPost_ret (results_tmp3 rfl _ _ _) rfl ?_
    rw [HBD.out]
    exact ⟨rfl,KW.out⟩
 ·have HPF:Hid (remF g es hs ms items p i=(0,0,er)):=Lib.hid (by unfold remF;rw [if_neg (by rw [her];exact h0),her])
  have e0:(er != 0)=true:=by simpa using h0
  clear h0 her
  go_enter Tryz.func16,Tryz.ntmps16
  go_upto_region 1 with fail
  try rw [hW1]
  try rw [hz1]
  clear hW1 hz1
  go_wp2_with (first | (refine wpList_rowG 36 _ rfl rfl w.heap.size bv _ rfl (HRG.out _ (Keeps.refl W1)) Tryz.underlying36 rfl (by rw [HBL.out];exact booksSize) ?_) | (go_at_call 25;(refine (HN.out).mono ?_);rintro e1 w1 ⟨v1,rfl,hk1,_⟩;have K1:=Lib.hid hk1;clear hk1))
  refine bodyPost_ret (results_tmp3 rfl _ _ _) rfl ?_
  rw [HPF.out]
  exact ⟨rfl,HW1.out.trans K1.out⟩
end Go.Proofs.YtoaidbhiciaeaaaGreat

end
