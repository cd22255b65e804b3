/- Walks and plain facts that the claim rests on (LawIEx). No condition. -/
import Derived.Test.YtoaidbhiciaeaaaGreatUnD
import Derived.Test.YtoaidbhiciaeaaaGreatUnB
import Derived.Test.YtoaidbhiciaeaaaGreatUn0
import Derived.Test.YtoaidbhiciaeaaaGreatUn0n
set_option linter.unusedSimpArgs false
set_option linter.unusedVariables false
set_option maxHeartbeats 16000000
section
namespace Go.Proofs.YtoaidbhiciaeaaaGreat
open Go.RowKit
set_option maxRecDepth 100000 in
theorem lawEx_any (bv:List Value) (g:Grp) (es:List JV) (hs:List Hol) (ms:List MV) (items:List Itm) (p:Int) (ao:Option Addr) (cap b o:Nat) (w:World) (H:BkG w bv g es hs ms) (ho:g.OkG) (hh:∀ x∈hs,x.Ok) (hid:∀ m∈ms,I64 m.x.id) (HI:Recs w 7 Itm.cells ao items cap b o) (hi:∀ x∈items,x.OkI) (hsz:∀ m∈ms,m.x.left.length+m.x.right.length≤9223372036854775807) :
  Calls Tryz.prog 6 #[.agg bv.toArray,.slice ao items.length cap,.int .i64 p] w fun e w'=>e=.returned (.bool true)∧Keeps w w':=by
 obtain ⟨q,hq⟩:∃ q,fewL g es hs ms items=q:=⟨_,rfl⟩
 have HBL:=Lib.hid H.bks.len
 have hrg:=box_range w bv 36
 have hk0:Keeps w (w.alloc (.cells bv.toArray 36)):=(Keeps.refl w).alloc _
 obtain ⟨W1,hW1⟩:∃ W1,w.alloc (.cells bv.toArray 36)=W1:=⟨_,rfl⟩
 rw [hW1] at hrg hk0
 have HK0:=Lib.hid hk0
 have HRG:Hid (∀ W,Keeps W1 W→W.rangeAt w.heap.size 0 bv):=Lib.hid (fun W hk=>range_keeps hrg hk)
 have HF:Hid (∀ W,Keeps W1 W→Calls Tryz.prog 10 #[.agg bv.toArray,.slice ao items.length cap] W fun e w'=>e=.returned (.bool q)∧Keeps W w'):=Lib.hid (fun W hk=>by
  have:=lfew_any bv g es hs ms items ao cap b o W (H.keeps (hk0.trans hk)) (HI.keeps (hk0.trans hk))
  rw [hq] at this
  exact this)
 cases q with
 | false=>
  clear H HI hrg hk0 hq
  go_enter Tryz.func6,Tryz.ntmps6
  go_upto_region 1 with fail
  try rw [hW1]
  clear hW1
  go_wp2_with (first | (go_at_call 9;guard_hyp K2:_;(refine (awake_any _).mono ?_);rintro e3 w3 ⟨rfl,hk3⟩;have K3:=Lib.hid (K2.out.trans hk3);clear hk3) | (go_at_call 9;(refine (awake_any _).mono ?_);rintro e1 w1 ⟨rfl,hk1⟩;have K1:=Lib.hid hk1;clear hk1) | (refine wpList_rowG 36 _ rfl rfl w.heap.size bv _ rfl (HRG.out _ (K1.out)) Tryz.underlying36 rfl (by rw [HBL.out];exact booksSize) ?_) | (go_at_call 10;(refine (HF.out _ K1.out).mono ?_);rintro e2 w2 ⟨rfl,hk2⟩;have K2:=Lib.hid (K1.out.trans hk2);clear hk2))
  go_ret
  exact ⟨rfl,HK0.out.trans K3.out⟩
 | true=>
  obtain ⟨SM,hA,hes,hml,hss⟩:=fewL_ok hq H ho hh hid hi hsz
  obtain ⟨er,her⟩:∃ er,(postsF g es hs ms items p).2=er:=⟨_,rfl⟩
  obtain ⟨l1,hl1⟩:∃ l,(postsF g es hs ms items p).1=l:=⟨_,rfl⟩
  have HP1:Hid (∀ W,Keeps W1 W→Calls Tryz.prog 11 #[.agg bv.toArray,.slice ao items.length cap,.int .i64 p] W fun e w'=>∃ v,e=.returned (.tuple #[v,.int .i64 er])∧PsV w' l1 v∧Keeps W w'):=Lib.hid (fun W hk=>by
   have:=postings_any bv g es hs ms items p ao cap b o W (H.keeps (hk0.trans hk)) (HI.keeps (hk0.trans hk)) SM hA
   rw [her,hl1] at this
   exact this)
  by_cases h0:er=0
  ·subst h0
   obtain ⟨aoM,capM,bM,oM,hb24,hM⟩:=H.bks.mts
   have hcapM:=Sl.cap hM.row
   have hleM:=Sl.le hM.row
   have HM:=Lib.hid hM
   have HIT0:Hid (∀ m∈ms,∀ W,Keeps W1 W→Calls Tryz.prog 15 #[.agg bv.toArray,.slice ao items.length cap,.agg #[.int .i64 m.x.id,.slice m.al m.x.left.length m.cl,.slice m.ar m.x.right.length m.cr,.int .i64 m.x.state],.int .i64 p] W fun e w'=>∃ a c b,e=.returned (.tuple #[.slice a (itemsR g es hs items p m.x).1.length c,.bool (itemsR g es hs items p m.x).2])∧Recs w' 7 Itm.cells a (itemsR g es hs items p m.x).1 c b 0∧Keeps W w'):=Lib.hid (fun m hm W hk=>
    ritemsR_any bv g es hs ms items p m.x ao cap b o m.al m.cl m.bl m.ol m.ar m.cr m.br m.or_ W (H.keeps (hk0.trans hk)) SM (HI.keeps (hk0.trans hk)) ((hM.left m hm).keeps (hk0.trans hk)) ((hM.right m hm).keeps (hk0.trans hk)) (SM.sides m hm).1 (SM.sides m hm).2)
   have HFC:Hid (∀ m∈ms,(itemsR g es hs items p m.x).1.length≤800∧∀ x∈(itemsR g es hs items p m.x).1,x.OkA):=Lib.hid (fun m hm=>itemsR_facts (ms:=ms) hm (SM.sides m hm).1 (SM.sides m hm).2 hA)
   have HEL:Hid (∀ y∈l1,∀ m∈ms,m.x.id=y.oth→totS (itemsR g es hs items p m.x).1=0→∀ q∈y.parts,q.acc∈(itemsR g es hs items p m.x).1.map Itm.acc):=Lib.hid (fun y hy m hm he h0=>exact_law her (by rw [hl1];exact hy) hm he h0)
   have c24:=hrg 24 _ hb24
   simp only [Nat.zero_add] at c24
   have C24:=Lib.hid c24
   clear H HI hrg hk0 hq SM hA her hl1 hM hb24 hes hml hss c24
   go_enter Tryz.func6,Tryz.ntmps6
   go_upto_region 1 with fail
   try rw [hW1]
   clear hW1
   go_wp2_with (first | (go_at_call 9;(refine (awake_any _).mono ?_);rintro e1 w1 ⟨rfl,hk1⟩;have K1:=Lib.hid hk1;clear hk1) | (refine wpList_rowG 36 _ rfl rfl w.heap.size bv _ rfl (HRG.out _ (K1.out)) Tryz.underlying36 rfl (by rw [HBL.out];exact booksSize) ?_) | (go_at_call 10;(refine (HF.out _ K1.out).mono ?_);rintro e2 w2 ⟨rfl,hk2⟩;have K2:=Lib.hid (K1.out.trans hk2);clear hk2) | (refine wpList_rowG 36 _ rfl rfl w.heap.size bv _ rfl (HRG.out _ (K2.out)) Tryz.underlying36 rfl (by rw [HBL.out];exact booksSize) ?_) | (go_at_call 11;(refine (HP1.out _ K2.out).mono ?_);rintro e3 w3 ⟨v3,rfl,⟨ls,ax,cx,bx,rfl,hrx,hix3,hex⟩,hk3⟩;have K3:=Lib.hid (K2.out.trans hk3);have HLX:=Lib.hid hrx;have HIX:=Lib.hid hix3;have HEX:=Lib.hid hex;have hcx:=Sl.cap hrx;have hlx:=Sl.le hrx;clear hrx hix3 hex hk3))
   go_loopw [46] (fun vi wr=>∃ k:Nat,k≤ls.length∧vi=.int .i64 k∧Hid (Keeps w3 wr)) (fun vi _=>ls.length - (intOf vi).toNat)
   case atStart=>exact ⟨0,Nat.zero_le _,rfl,Lib.hid (Keeps.refl _)⟩
   case round=>
    obtain ⟨k,hk,rfl,HWO⟩:=hrel
    obtain ⟨wo,rfl⟩:∃ z:World,z=wr:=⟨_,rfl⟩
    have KO:=Lib.hid (K3.out.trans HWO.out)
    by_cases hlt:k < ls.length
    ·have hr:=HLX.out.keeps HWO.out
     have hix:=Sl.at hr Tryz.underlying40 Tryz.sizeOf59 k hlt
     obtain ⟨e,hek⟩:∃ e,ls[k]=e:=⟨_,rfl⟩
     have d0:=hr.cell PV.len k hlt 0 (.int .i64 e.x.kind) (by rw [hek];rfl)
     have d1:=hr.cell PV.len k hlt 1 (.int .i64 e.x.ent) (by rw [hek];rfl)
     have d2:=hr.cell PV.len k hlt 2 (.int .i64 e.x.oth) (by rw [hek];rfl)
     have d3:=hr.cell PV.len k hlt 3 (.int .i64 e.x.rul) (by rw [hek];rfl)
     have d4:=hr.cell PV.len k hlt 4 (.slice e.a e.x.parts.length e.c) (by rw [hek];rfl)
     simp only [Nat.add_zero,Nat.zero_add] at d0 d1 d2 d3 d4 hix
     have hem:e∈ls:=by rw [← hek];exact List.getElem_mem hlt
     have HEM:Hid (e.x∈l1):=Lib.hid (by rw [← HEX.out];exact List.mem_map_of_mem hem)
     have HRE:Hid (∀ W,Keeps wo W→Recs W 2 Prt.cells e.a e.x.parts e.c e.b 0):=Lib.hid (fun W hW=>Sl.keeps (HIX.out e hem) (HWO.out.trans hW))
     have hcape:=Sl.cap (HRE.out _ (Keeps.refl _))
     have hlee:=Sl.le (HRE.out _ (Keeps.refl _))
     have HYB:Hid (∀ W,Keeps (wo.alloc (.cells #[.int .i64 e.x.kind,.int .i64 e.x.ent,.int .i64 e.x.oth,.int .i64 e.x.rul,.slice e.a e.x.parts.length e.c] 59)) W→W.cell? ⟨wo.heap.size,2,none⟩=some (.int .i64 e.x.oth)∧W.cell? ⟨wo.heap.size,4,none⟩=some (.slice e.a e.x.parts.length e.c)):=Lib.hid (fun W hW=>⟨hW.cell (by go_simp),hW.cell (by go_simp)⟩)
     have c24:=KO.out.cell C24.out
     have hz24:=World.block_lt_of_cell? _ _ c24
     clear hr hek hem
     go_wp2_with fail
     obtain ⟨wy,hwy⟩:∃ wy,wo.alloc (.cells #[.int .i64 e.x.kind,.int .i64 e.x.ent,.int .i64 e.x.oth,.int .i64 e.x.rul,.slice e.a e.x.parts.length e.c] 59)=wy:=⟨_,rfl⟩
     have hky:Keeps wo wy:=by rw [← hwy];exact (Keeps.refl wo).alloc _
     rw [hwy] at HYB ⊢
     have HKY:=Lib.hid hky
     clear hwy hky d0 d1 d2 d3 d4 hix c24 hz24
     go_loopw [53] (fun vi wr=>∃ k:Nat,k≤ms.length∧vi=.int .i64 k∧Hid (Keeps wy wr)) (fun vi _=>ms.length - (intOf vi).toNat)
     case atStart=>exact ⟨0,Nat.zero_le _,rfl,Lib.hid (Keeps.refl _)⟩
     case round=>
      obtain ⟨n,hn,rfl,HWM⟩:=hrel
      obtain ⟨wm,rfl⟩:∃ z:World,z=wr:=⟨_,rfl⟩
      have KM:=Lib.hid (KO.out.trans (HKY.out.trans HWM.out))
      by_cases hnl:n < ms.length
      ·have hr:=HM.out.row.keeps (HK0.out.trans KM.out)
       have hix:=Sl.at hr Tryz.underlying33 Tryz.sizeOf48 n hnl
       obtain ⟨m,hmk⟩:∃ m,ms[n]=m:=⟨_,rfl⟩
       have c0:=hr.cell MV.len n hnl 0 (.int .i64 m.x.id) (by rw [hmk];rfl)
       have c1:=hr.cell MV.len n hnl 1 (.slice m.al m.x.left.length m.cl) (by rw [hmk];rfl)
       have c2:=hr.cell MV.len n hnl 2 (.slice m.ar m.x.right.length m.cr) (by rw [hmk];rfl)
       have c3:=hr.cell MV.len n hnl 3 (.int .i64 m.x.state) (by rw [hmk];rfl)
       rw [Nat.add_zero] at c0
       obtain ⟨y2,_⟩:=HYB.out _ HWM.out
       have hzy:=World.block_lt_of_cell? _ _ y2
       have hmem:m∈ms:=by rw [← hmk];exact List.getElem_mem hnl
       have hit:=HIT0.out m hmem
       have hfc:=HFC.out m hmem
       have hel:=HEL.out e.x HEM.out m hmem
       obtain ⟨⟨own,qq⟩,hoq⟩:∃ r,itemsR g es hs items p m.x=r:=⟨_,rfl⟩
       rw [hoq] at hit hfc hel
       simp only at hit hfc hel
       have HIT:Hid (∀ W,Keeps wm W→Calls Tryz.prog 15 #[.agg bv.toArray,.slice ao items.length cap,.agg #[.int .i64 m.x.id,.slice m.al m.x.left.length m.cl,.slice m.ar m.x.right.length m.cr,.int .i64 m.x.state],.int .i64 p] W fun e w'=>∃ a c b,e=.returned (.tuple #[.slice a own.length c,.bool qq])∧Recs w' 7 Itm.cells a own c b 0∧Keeps W w'):=Lib.hid (fun W hW=>hit W (KM.out.trans hW))
       clear hr hmk hmem hit hoq
       by_cases hid2:m.x.id=e.x.oth
       ·have e1:(m.x.id != e.x.oth)=false:=by simp [bne,hid2]
        have HEQ:Hid (totS own=0→∀ q∈e.x.parts,q.acc∈own.map Itm.acc):=Lib.hid (hel hid2)
        have HOA:=Lib.hid hfc.2
        have hol:=hfc.1
        clear hid2 hel hfc
        go_wp2_with (first | (refine wpList_rowG 36 _ rfl rfl w.heap.size bv _ rfl (HRG.out _ (KM.out.alloc _)) Tryz.underlying36 rfl (by rw [HBL.out];exact booksSize) ?_) | (go_at_call 15;(refine (HIT.out _ ((Keeps.refl wm).alloc _)).mono ?_);rintro e4 w4 ⟨a4,c4,b4,rfl,hr4,hk4⟩;have K4:Hid (Keeps wm w4):=Lib.hid (((Keeps.refl wm).alloc (.cells #[.int .i64 m.x.id,.slice m.al m.x.left.length m.cl,.slice m.ar m.x.right.length m.cr,.int .i64 m.x.state] 48)).trans hk4);have HS4:=Lib.hid hr4;have hcap4:=Sl.cap hr4;have hle4:=Sl.le hr4;clear hr4 hk4))
        clear c0 c1 c2 c3 hix y2 hzy
        go_loopw [15,72] (fun vs vi wr=>∃ j:Nat,j≤own.length∧vi=.int .i64 j∧vs=.int .i64 (totS (own.take j))∧Hid (Keeps w4 wr)) (fun _ vi _=>own.length - (intOf vi).toNat)
        case atStart=>exact ⟨0,Nat.zero_le _,rfl,by rw [List.take_zero];rfl,Lib.hid (Keeps.refl _)⟩
        case round=>
         obtain ⟨j,hj,rfl,rfl,HV⟩:=hrel
         by_cases hjl:j < own.length
         ·have hr:=HS4.out.keeps HV.out
          have hix:=Sl.at hr Tryz.underlying37 Tryz.sizeOf53 j hjl
          obtain ⟨x,hx⟩:∃ x,own[j]=x:=⟨_,rfl⟩
          have c0:=hr.cell Itm.len j hjl 0 (.int .i64 x.ref.e) (by rw [hx];rfl);have c1:=hr.cell Itm.len j hjl 1 (.int .i64 x.ref.l) (by rw [hx];rfl);have c2:=hr.cell Itm.len j hjl 2 (.int .i64 x.ent) (by rw [hx];rfl);have c3:=hr.cell Itm.len j hjl 3 (.int .i64 x.acc) (by rw [hx];rfl);have c4x:=hr.cell Itm.len j hjl 4 (.int .i64 x.ptn) (by rw [hx];rfl);have c5:=hr.cell Itm.len j hjl 5 (.int .i64 x.date) (by rw [hx];rfl);have c6:=hr.cell Itm.len j hjl 6 (.int .i64 x.amt) (by rw [hx];rfl);simp only [Nat.add_zero,Nat.zero_add] at c0 c1 c2 c3 c4x c5 c6 hix
          have hT1:=totS_small (l:=own.take j) (fun q hq=>HOA.out q (List.mem_of_mem_take hq)) (by rw [List.length_take];omega)
          have hxb:=(HOA.out x (by rw [← hx];exact List.getElem_mem ..)).2
          have HT:Hid (totS (own.take (j+1))=totS (own.take j)+x.amt):=Lib.hid (by rw [take_snoc _ _ hjl,hx,totS_snoc])
          obtain ⟨S,hS⟩:∃ S,totS (own.take j)=S:=⟨_,rfl⟩
          rw [hS] at hT1 HT ⊢
          have hw1:wrap64 (S+x.amt)=S+x.amt:=IntWalk.wrap64_in _ (by omega)
          have hw2:IntKind.i64.wrap (S+x.amt)=S+x.amt:=IntWalk.i64_in _ (by omega)
          clear hr hx hS hT1 hxb
          go_wp2_with fail
          go_roundw
          case rel=>exact ⟨j+1,by omega,by go_num,by rw [HT.out],Lib.hid (HV.out.alloc _)⟩
          case measure=>simp [intOf];omega
         ·obtain rfl:j=own.length:=by omega
          rw [List.take_length]
          have HKV:=Lib.hid (HWM.out.trans (K4.out.trans HV.out))
          by_cases hz0:totS own=0
          ·have e2:(totS own != 0)=false:=by simp [bne,hz0]
           have HIN:=Lib.hid (HEQ.out hz0)
           obtain ⟨y2,y4⟩:=HYB.out _ HKV.out
           have hzy:=World.block_lt_of_cell? _ _ y4
           obtain ⟨T,hT⟩:∃ T,totS own=T:=⟨_,rfl⟩
           rw [hT] at e2 ⊢
           clear hz0 hT HEQ
           go_wp2_with fail
           clear y2 y4 hzy
           obtain ⟨wv,rfl⟩:∃ z:World,z=wr:=⟨_,rfl⟩
           go_loopw [86] (fun vi wr2=>∃ j:Nat,j≤e.x.parts.length∧vi=.int .i64 j∧Hid (Keeps wv wr2)) (fun vi _=>e.x.parts.length - (intOf vi).toNat)
           case atStart=>exact ⟨0,Nat.zero_le _,rfl,Lib.hid (Keeps.refl _)⟩
           case round=>
            obtain ⟨j,hj,rfl,HVP⟩:=hrel
            by_cases hjl:j < e.x.parts.length
            ·have KP:=Lib.hid (HKY.out.trans (HKV.out.trans HVP.out))
             have hr:=HRE.out _ KP.out
             have hix:=Sl.at hr Tryz.underlying57 Tryz.sizeOf63 j hjl
             obtain ⟨q,hq⟩:∃ q,e.x.parts[j]=q:=⟨_,rfl⟩
             have d0:=hr.cell Prt.len j hjl 0 (.int .i64 q.acc) (by rw [hq];rfl)
             have d1:=hr.cell Prt.len j hjl 1 (.int .i64 q.amt) (by rw [hq];rfl)
             simp only [Nat.add_zero,Nat.zero_add] at d0 d1 hix
             have hqm:=HIN.out q (by rw [← hq];exact List.getElem_mem hjl)
             have HQA:Hid (own.any (fun i=>i.acc == q.acc)=true):=Lib.hid (by
              obtain ⟨i,hi,he⟩:=List.mem_map.1 hqm
              exact List.any_eq_true.2 ⟨i,hi,by simpa using he⟩)
             clear hr hq hqm
             go_wp2_with fail
             have y0:(wr.alloc (.cells #[.int .i64 q.acc,.int .i64 q.amt] 63)).cell? ⟨wr.heap.size,0,none⟩=some (.int .i64 q.acc):=by go_simp
             obtain ⟨wp,hwp⟩:∃ wp,wr.alloc (.cells #[.int .i64 q.acc,.int .i64 q.amt] 63)=wp:=⟨_,rfl⟩
             have hkp:Keeps wr wp:=by rw [← hwp];exact (Keeps.refl wr).alloc _
             rw [hwp] at y0 ⊢
             have HKP:=Lib.hid hkp
             have Y0:=Lib.hid y0
             obtain ⟨bp,hbp⟩:∃ bp,wr.heap.size=bp:=⟨_,rfl⟩
             rw [hbp] at Y0 ⊢
             clear hwp hkp y0 d0 d1 hix hbp
             go_loopw [20,92] (fun vf vi w9=>∃ n:Nat,n≤own.length∧vi=.int .i64 n∧vf=.bool ((own.take n).any (fun i=>i.acc == q.acc))∧Hid (Keeps wp w9)) (fun _ vi _=>own.length - (intOf vi).toNat)
             case atStart=>exact ⟨0,Nat.zero_le _,rfl,by rw [List.take_zero];rfl,Lib.hid (Keeps.refl _)⟩
             case round=>
              obtain ⟨wq,hwq⟩:∃ z:World,z=wr:=⟨_,rfl⟩
              obtain ⟨t,ht,rfl,rfl,HV9⟩:=hrel
              by_cases htl:t < own.length
              ·have hr:=HS4.out.keeps (HV.out.trans (HVP.out.trans (HKP.out.trans HV9.out)))
               have hix:=Sl.at hr Tryz.underlying37 Tryz.sizeOf53 t htl
               obtain ⟨x,hx⟩:∃ x,own[t]=x:=⟨_,rfl⟩
               have c0:=hr.cell Itm.len t htl 0 (.int .i64 x.ref.e) (by rw [hx];rfl);have c1:=hr.cell Itm.len t htl 1 (.int .i64 x.ref.l) (by rw [hx];rfl);have c2:=hr.cell Itm.len t htl 2 (.int .i64 x.ent) (by rw [hx];rfl);have c3:=hr.cell Itm.len t htl 3 (.int .i64 x.acc) (by rw [hx];rfl);have c4x:=hr.cell Itm.len t htl 4 (.int .i64 x.ptn) (by rw [hx];rfl);have c5:=hr.cell Itm.len t htl 5 (.int .i64 x.date) (by rw [hx];rfl);have c6:=hr.cell Itm.len t htl 6 (.int .i64 x.amt) (by rw [hx];rfl);simp only [Nat.add_zero,Nat.zero_add] at c0 c1 c2 c3 c4x c5 c6 hix
               have y0:=HV9.out.cell Y0.out
               have hzp:=World.block_lt_of_cell? _ _ y0
               have HAN:Hid ((own.take (t+1)).any (fun i=>i.acc == q.acc)=((own.take t).any (fun i=>i.acc == q.acc) || (x.acc == q.acc))):=Lib.hid (by rw [take_snoc _ t htl,hx,List.any_append];simp)
               obtain ⟨F,hF⟩:∃ F,(own.take t).any (fun i=>i.acc == q.acc)=F:=⟨_,rfl⟩
               obtain ⟨G,hG⟩:∃ G,(x.acc == q.acc)=G:=⟨_,rfl⟩
               rw [hF,hG] at HAN
               rw [hF]
               have HF:=Lib.hid hF
               clear hr hx hF hwq
               cases F with
               | true=>
                clear hG
                go_wp2_with fail
                go_roundw
                case rel=>exact ⟨t+1,by omega,by go_num,by rw [HAN.out];rfl,Lib.hid (HV9.out.alloc _)⟩
                case measure=>simp [intOf];omega
               | false=>
                go_wp2_with fail
                go_roundw
                case rel=>exact ⟨t+1,by omega,by go_num,by rw [HAN.out];first | rfl | (rw [← hG];rfl) | (rw [← hG];simp),Lib.hid (HV9.out.alloc _)⟩
                case measure=>simp [intOf];omega
              ·obtain rfl:t=own.length:=by omega
               rw [List.take_length,HQA.out]
               go_wp2_with fail
               go_roundw
               case rel=>exact ⟨j+1,by omega,by go_num,Lib.hid (HVP.out.trans (HKP.out.trans HV9.out))⟩
               case measure=>simp [intOf];omega
            ·go_wp2_with fail
             go_roundw
             case rel=>exact ⟨n+1,by omega,by go_num,Lib.hid (HKV.out.trans HVP.out)⟩
             case measure=>simp [intOf];omega
          ·have e2:(totS own != 0)=true:=by simpa [bne] using hz0
           obtain ⟨T,hT⟩:∃ T,totS own=T:=⟨_,rfl⟩
           rw [hT] at e2 ⊢
           clear hz0 hT
           go_wp2_with fail
           go_roundw
           case rel=>exact ⟨n+1,by omega,by go_num,HKV⟩
           case measure=>simp [intOf];omega
       ·have e1:(m.x.id != e.x.oth)=true:=by simpa [bne] using hid2
        clear hid2 hel hfc
        go_wp2_with fail
        go_roundw
        case rel=>exact ⟨n+1,by omega,by go_num,Lib.hid (HWM.out.alloc _)⟩
        case measure=>simp [intOf];omega
      ·go_wp2_with fail
       go_roundw
       case rel=>exact ⟨k+1,by omega,by go_num,Lib.hid (HWO.out.trans (HKY.out.trans HWM.out))⟩
       case measure=>simp [intOf];omega
    ·go_wp2_with fail
     go_ret
     exact ⟨rfl,HK0.out.trans KO.out⟩
  ·have hnil:l1=[]:=by rw [← hl1];exact posts_bad (by rw [her];exact h0)
   subst hnil
   have e0:(er != 0)=true:=by simpa using h0
   clear H HI hrg hk0 hq SM hA her hl1 h0
   go_enter Tryz.func6,Tryz.ntmps6
   go_upto_region 1 with fail
   try rw [hW1]
   clear hW1
   go_wp2_with (first | (go_at_call 9;(refine (awake_any _).mono ?_);rintro e1 w1 ⟨rfl,hk1⟩;have K1:=Lib.hid hk1;clear hk1) | (refine wpList_rowG 36 _ rfl rfl w.heap.size bv _ rfl (HRG.out _ (K1.out)) Tryz.underlying36 rfl (by rw [HBL.out];exact booksSize) ?_) | (go_at_call 10;(refine (HF.out _ K1.out).mono ?_);rintro e2 w2 ⟨rfl,hk2⟩;have K2:=Lib.hid (K1.out.trans hk2);clear hk2) | (refine wpList_rowG 36 _ rfl rfl w.heap.size bv _ rfl (HRG.out _ (K2.out)) Tryz.underlying36 rfl (by rw [HBL.out];exact booksSize) ?_) | (go_at_call 11;(refine (HP1.out _ K2.out).mono ?_);rintro e3 w3 ⟨v3,rfl,hp3,hk3⟩;have HP3:=Lib.hid hp3;have K3:=Lib.hid (K2.out.trans hk3);obtain ⟨ax,cx,rfl,hlx,hcx⟩:=hp3.shape;clear hp3 hk3))
   go_ret
   exact ⟨rfl,HK0.out.trans K3.out⟩
end Go.Proofs.YtoaidbhiciaeaaaGreat

end
