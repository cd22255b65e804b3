/- Walks and plain facts that the claim rests on (LawINo). No condition. -/
import Derived.Test.YtoaidbhiciaeaaaGreatUnD
import Derived.Test.YtoaidbhiciaeaaaGreatUnC
import Derived.Test.YtoaidbhiciaeaaaGreatUnB
import Derived.Test.YtoaidbhiciaeaaaGreatUn0
import Derived.Test.YtoaidbhiciaeaaaGreatUn0n
set_option linter.unusedSimpArgs false
set_option linter.unusedVariables false
set_option maxHeartbeats 16000000
section
namespace Go.Proofs.YtoaidbhiciaeaaaGreat
open Go.RowKit
theorem left_law2 {g:Grp} {es:List JV} {hs:List Hol} {ms:List MV} {items:List Itm} {p:Int} (h:(postsF g es hs ms items p).2=0) {m:MV} (hm:m∈ms) {own:List Itm} (ho:itemsR g es hs items p m.x=(own,true)) :
  ∃ acc,remF g es hs ms items p m.x.id=(totS own,acc,0)∧partsOf (postsF g es hs ms items p).1 m.x.id []=partsP own acc∧okPs own acc=true:=by
 obtain ⟨acc,h1,h2⟩:=left_law h hm ho
 obtain ⟨h0,hall,_⟩:=posts_good h
 refine ⟨acc,h1,h2,?_⟩
 unfold itemsR at ho
 split at ho
 ·rename_i hb
  have hx:eliM es items m.x∈elisS g es hs ms items p:=elisS_mem.2 ⟨m,hm,hb,rfl⟩
  have e:(eliM es items m.x).own=own:=congrArg Prod.fst ho
  have h3:=rem_eli h0 hx
  have h4:remF g es hs ms items p m.x.id=(totS (eliM es items m.x).own,remA g (dayA g p) (eliM es items m.x).own,0):=h3
  rw [h1,e] at h4
  have h5:acc=remA g (dayA g p) own:=congrArg (fun q:Int × Int × Int=>q.2.1) h4
  have hk:=List.all_eq_true.1 hall _ hx
  unfold okE at hk
  rw [e] at hk
  rw [h5]
  exact hk
 ·exact absurd (congrArg Prod.snd ho) (by simp)
theorem insK_len (x:Int) (l:List Int):(insK x l).length≤l.length+1:=by
 induction l with
 | nil=>exact Nat.le_refl _
 | cons y t ih=>unfold insK;split <;> (try split) <;> simp <;> omega
theorem keysL_len (l:List Int):(keysL l).length≤l.length:=by
 induction l with
 | nil=>exact Nat.le_refl _
 | cons y t ih=>
  have:=insK_len y (keysL t)
  show (insK y (keysL t)).length≤_
  simp only [List.length_cons]
  omega
theorem prt_ok {own:List Itm} {acc:Int} (h:okPs own acc=true):(partsP own acc).length≤own.length+1∧∀ x∈partsP own acc,x.OkA:=by
 constructor
 ·unfold partsP
  refine Nat.le_trans (partsL_le _ _ _) ?_
  unfold keysP
  refine Nat.le_trans (keysL_len _) ?_
  rw [List.length_cons,List.length_map]
  exact Nat.le_refl _
 ·intro x hx
  unfold partsP partsL at hx
  obtain ⟨h1,_⟩:=List.mem_filter.1 hx
  obtain ⟨c,hc,rfl⟩:=List.mem_map.1 h1
  unfold okPs at h
  have:=List.all_eq_true.1 h c hc
  unfold amtB at this
  simpa [Prt.OkA] using this
set_option maxRecDepth 100000 in
theorem lawNo_any (bv:List Value) (g:Grp) (es:List JV) (hs:List Hol) (ms:List MV) (items:List Itm) (p:Int) (ao:Option Addr) (cap b o:Nat) (w:World) (H:BkG w bv g es hs ms) (ho:g.OkG) (hh:∀ x∈hs,x.Ok) (hid:∀ m∈ms,I64 m.x.id) (HI:Recs w 7 Itm.cells ao items cap b o) (hi:∀ x∈items,x.OkI) (hsz:∀ m∈ms,m.x.left.length+m.x.right.length≤9223372036854775807) :
  Calls Tryz.prog 7 #[.agg bv.toArray,.slice ao items.length cap,.int .i64 p] w fun e w'=>e=.returned (.bool true)∧Keeps w w':=by
 obtain ⟨q,hq⟩:∃ q,fewL g es hs ms items=q:=⟨_,rfl⟩
 have HBL:=Lib.hid H.bks.len
 have hrg:=box_range w bv 36
 have hk0:Keeps w (w.alloc (.cells bv.toArray 36)):=(Keeps.refl w).alloc _
 obtain ⟨W1,hW1⟩:∃ W1,w.alloc (.cells bv.toArray 36)=W1:=⟨_,rfl⟩
 rw [hW1] at hrg hk0
 have HK0:=Lib.hid hk0
 have HRG:Hid (∀ W,Keeps W1 W→W.rangeAt w.heap.size 0 bv):=Lib.hid (fun W hk=>range_keeps hrg hk)
 have HF:Hid (∀ W,Keeps W1 W→Calls Tryz.prog 10 #[.agg bv.toArray,.slice ao items.length cap] W fun e w'=>e=.returned (.bool q)∧Keeps W w'):=Lib.hid (fun W hk=>by
  have:=lfew_any bv g es hs ms items ao cap b o W (H.keeps (hk0.trans hk)) (HI.keeps (hk0.trans hk))
  rw [hq] at this
  exact this)
 cases q with
 | false=>
  clear H HI hrg hk0 hq
  go_enter Tryz.func7,Tryz.ntmps7
  go_upto_region 1 with fail
  try rw [hW1]
  clear hW1
  go_wp2_with (first | (go_at_call 9;guard_hyp K2:_;(refine (awake_any _).mono ?_);rintro e3 w3 ⟨rfl,hk3⟩;have K3:=Lib.hid (K2.out.trans hk3);clear hk3) | (go_at_call 9;(refine (awake_any _).mono ?_);rintro e1 w1 ⟨rfl,hk1⟩;have K1:=Lib.hid hk1;clear hk1) | (refine wpList_rowG 36 _ rfl rfl w.heap.size bv _ rfl (HRG.out _ (K1.out)) Tryz.underlying36 rfl (by rw [HBL.out];exact booksSize) ?_) | (go_at_call 10;(refine (HF.out _ K1.out).mono ?_);rintro e2 w2 ⟨rfl,hk2⟩;have K2:=Lib.hid (K1.out.trans hk2);clear hk2))
  go_ret
  exact ⟨rfl,HK0.out.trans K3.out⟩
 | true=>
  obtain ⟨SM,hA,hes,hml,hss⟩:=fewL_ok hq H ho hh hid hi hsz
  obtain ⟨er,her⟩:∃ er,(postsF g es hs ms items p).2=er:=⟨_,rfl⟩
  obtain ⟨l1,hl1⟩:∃ l,(postsF g es hs ms items p).1=l:=⟨_,rfl⟩
  have HP1:Hid (∀ W,Keeps W1 W→Calls Tryz.prog 11 #[.agg bv.toArray,.slice ao items.length cap,.int .i64 p] W fun e w'=>∃ v,e=.returned (.tuple #[v,.int .i64 er])∧PsV w' l1 v∧Keeps W w'):=Lib.hid (fun W hk=>by
   have:=postings_any bv g es hs ms items p ao cap b o W (H.keeps (hk0.trans hk)) (HI.keeps (hk0.trans hk)) SM hA
   rw [her,hl1] at this
   exact this)
  by_cases h0:er=0
  ·subst h0
   obtain ⟨aoM,capM,bM,oM,hb24,hM⟩:=H.bks.mts
   obtain ⟨aoC,capC,bC,oC,aoE,capE,bE,oE,hgc,hC,_⟩:=H.grp
   have hcapM:=Sl.cap hM.row
   have hleM:=Sl.le hM.row
   have hcapC:=Sl.cap hC
   have hleC:=Sl.le hC
   have HM:=Lib.hid hM
   have HCH:=Lib.hid hC
   have HIT0:Hid (∀ m∈ms,∀ W,Keeps W1 W→Calls Tryz.prog 15 #[.agg bv.toArray,.slice ao items.length cap,.agg #[.int .i64 m.x.id,.slice m.al m.x.left.length m.cl,.slice m.ar m.x.right.length m.cr,.int .i64 m.x.state],.int .i64 p] W fun e w'=>∃ a c b,e=.returned (.tuple #[.slice a (itemsR g es hs items p m.x).1.length c,.bool (itemsR g es hs items p m.x).2])∧Recs w' 7 Itm.cells a (itemsR g es hs items p m.x).1 c b 0∧Keeps W w'):=Lib.hid (fun m hm W hk=>
    ritemsR_any bv g es hs ms items p m.x ao cap b o m.al m.cl m.bl m.ol m.ar m.cr m.br m.or_ W (H.keeps (hk0.trans hk)) SM (HI.keeps (hk0.trans hk)) ((hM.left m hm).keeps (hk0.trans hk)) ((hM.right m hm).keeps (hk0.trans hk)) (SM.sides m hm).1 (SM.sides m hm).2)
   have HFC:Hid (∀ m∈ms,(itemsR g es hs items p m.x).1.length≤800∧∀ x∈(itemsR g es hs items p m.x).1,x.OkA):=Lib.hid (fun m hm=>itemsR_facts (ms:=ms) hm (SM.sides m hm).1 (SM.sides m hm).2 hA)
   have HLL:Hid (∀ m∈ms,∀ own,itemsR g es hs items p m.x=(own,true)→∃ acc,remF g es hs ms items p m.x.id=(totS own,acc,0)∧partsOf l1 m.x.id []=partsP own acc∧okPs own acc=true):=Lib.hid (fun m hm own h=>by
    have:=left_law2 her hm h
    rw [hl1] at this
    exact this)
   have HIR0:Hid (∀ (i:Int) W,Keeps W1 W→Calls Tryz.prog 16 #[.agg bv.toArray,.slice ao items.length cap,.int .i64 i,.int .i64 p] W fun e w'=>e=.returned (.tuple #[.int .i64 (remF g es hs ms items p i).1,.int .i64 (remF g es hs ms items p i).2.1,.int .i64 (remF g es hs ms items p i).2.2])∧Keeps W w'):=Lib.hid (fun i W hk=>
    iremI_any bv g es hs ms items p i ao cap b o W (H.keeps (hk0.trans hk)) (HI.keeps (hk0.trans hk)) SM hA)
   have c24:=hrg 24 _ hb24
   have c4:=hrg 4 _ (hgc 4 _ rfl)
   simp only [Nat.zero_add] at c24 c4
   have C24:=Lib.hid c24
   have C4:=Lib.hid c4
   clear H HI hrg hk0 hq SM hA her hl1 hM hC hgc hb24 hes hml hss c24 c4
   go_enter Tryz.func7,Tryz.ntmps7
   go_upto_region 1 with fail
   try rw [hW1]
   clear hW1
   go_wp2_with (first | (go_at_call 9;(refine (awake_any _).mono ?_);rintro e1 w1 ⟨rfl,hk1⟩;have K1:=Lib.hid hk1;clear hk1) | (refine wpList_rowG 36 _ rfl rfl w.heap.size bv _ rfl (HRG.out _ (K1.out)) Tryz.underlying36 rfl (by rw [HBL.out];exact booksSize) ?_) | (go_at_call 10;(refine (HF.out _ K1.out).mono ?_);rintro e2 w2 ⟨rfl,hk2⟩;have K2:=Lib.hid (K1.out.trans hk2);clear hk2) | (refine wpList_rowG 36 _ rfl rfl w.heap.size bv _ rfl (HRG.out _ (K2.out)) Tryz.underlying36 rfl (by rw [HBL.out];exact booksSize) ?_) | (go_at_call 11;(refine (HP1.out _ K2.out).mono ?_);rintro e3 w3 ⟨v3,rfl,⟨ls,ax,cx,bx,rfl,hrx,hix3,hex⟩,hk3⟩;have K3:=Lib.hid (K2.out.trans hk3);have HLX:=Lib.hid hrx;have HIX:=Lib.hid hix3;have HEX:=Lib.hid hex;have hcx:=Sl.cap hrx;have hlx:=Sl.le hrx;have c24:=K3.out.cell C24.out;have hz24:=World.block_lt_of_cell? _ _ c24;clear hrx hix3 hex hk3))
   clear c24 hz24
   go_loopw [48] (fun vi wr=>∃ k:Nat,k≤ms.length∧vi=.int .i64 k∧Hid (Keeps w3 wr)) (fun vi _=>ms.length - (intOf vi).toNat)
   case atStart=>exact ⟨0,Nat.zero_le _,rfl,Lib.hid (Keeps.refl _)⟩
   case round=>
    obtain ⟨k,hk,rfl,HWO⟩:=hrel
    obtain ⟨wo,rfl⟩:∃ z:World,z=wr:=⟨_,rfl⟩
    have KO:=Lib.hid (K3.out.trans HWO.out)
    by_cases hlt:k < ms.length
    ·have hr:=HM.out.row.keeps (HK0.out.trans KO.out)
     have hix:=Sl.at hr Tryz.underlying33 Tryz.sizeOf48 k hlt
     obtain ⟨m,hmk⟩:∃ m,ms[k]=m:=⟨_,rfl⟩
     have c0:=hr.cell MV.len k hlt 0 (.int .i64 m.x.id) (by rw [hmk];rfl)
     have c1:=hr.cell MV.len k hlt 1 (.slice m.al m.x.left.length m.cl) (by rw [hmk];rfl)
     have c2:=hr.cell MV.len k hlt 2 (.slice m.ar m.x.right.length m.cr) (by rw [hmk];rfl)
     have c3:=hr.cell MV.len k hlt 3 (.int .i64 m.x.state) (by rw [hmk];rfl)
     rw [Nat.add_zero] at c0
     have hmem:m∈ms:=by rw [← hmk];exact List.getElem_mem hlt
     have hit:=HIT0.out m hmem
     have hfc:=HFC.out m hmem
     have hll:=HLL.out m hmem
     have hir:=HIR0.out m.x.id
     obtain ⟨⟨own,qq⟩,hoq⟩:∃ r,itemsR g es hs items p m.x=r:=⟨_,rfl⟩
     rw [hoq] at hit hfc hll
     simp only at hit hfc
     have HIT:Hid (∀ W,Keeps wo W→Calls Tryz.prog 15 #[.agg bv.toArray,.slice ao items.length cap,.agg #[.int .i64 m.x.id,.slice m.al m.x.left.length m.cl,.slice m.ar m.x.right.length m.cr,.int .i64 m.x.state],.int .i64 p] W fun e w'=>∃ a c b,e=.returned (.tuple #[.slice a own.length c,.bool qq])∧Recs w' 7 Itm.cells a own c b 0∧Keeps W w'):=Lib.hid (fun W hW=>hit W (KO.out.trans hW))
     clear hr hmk hmem hit hoq
     cases qq with
     | false=>
      clear hll hir hfc
      go_wp2_with (first | (refine wpList_rowG 36 _ rfl rfl w.heap.size bv _ rfl (HRG.out _ (KO.out.alloc _)) Tryz.underlying36 rfl (by rw [HBL.out];exact booksSize) ?_) | (go_at_call 15;(refine (HIT.out _ ((Keeps.refl wo).alloc _)).mono ?_);rintro e4 w4 ⟨a4,c4,b4,rfl,hr4,hk4⟩;have K4:Hid (Keeps wo w4):=Lib.hid (((Keeps.refl wo).alloc (.cells #[.int .i64 m.x.id,.slice m.al m.x.left.length m.cl,.slice m.ar m.x.right.length m.cr,.int .i64 m.x.state] 48)).trans hk4);have HS4:=Lib.hid hr4;have hcap4:=Sl.cap hr4;have x0:=hk4.cell (p:=⟨wo.heap.size,0,none⟩) (v:=.int .i64 m.x.id) (by go_simp);have hz4:=World.block_lt_of_cell? _ _ x0;clear hr4 hk4))
      go_roundw
      case rel=>exact ⟨k+1,by omega,by go_num,Lib.hid (HWO.out.trans K4.out)⟩
      case measure=>simp [intOf];omega
     | true=>
      obtain ⟨acc,hrm,hpo,hok⟩:=hll own rfl
      rw [hrm] at hir
      simp only at hir
      obtain ⟨hpl,hpA⟩:=prt_ok hok
      have hsa:∀ c,accS own c+prtS (partsP own acc) c=if c=acc then totS own else 0:=sum_all own acc
      have hpz:=parts_zero own acc
      obtain ⟨T,hT⟩:∃ T,totS own=T:=⟨_,rfl⟩
      obtain ⟨P,hP⟩:∃ P,partsP own acc=P:=⟨_,rfl⟩
      rw [hT] at hir hsa
      rw [hP] at hpo hpl hpA hsa hpz
      have HIR:Hid (∀ W,Keeps wo W→Calls Tryz.prog 16 #[.agg bv.toArray,.slice ao items.length cap,.int .i64 m.x.id,.int .i64 p] W fun e w'=>e=.returned (.tuple #[.int .i64 T,.int .i64 acc,.int .i64 0])∧Keeps W w'):=Lib.hid (fun W hW=>hir W (KO.out.trans hW))
      have HPO:=Lib.hid hpo
      have HPA:=Lib.hid hpA
      have HSA:=Lib.hid hsa
      have HPZ:=Lib.hid hpz
      have HOA:=Lib.hid hfc.2
      have hol:=hfc.1
      clear hir hrm hpo hok hpA hsa hpz hT hP hfc hll
      go_wp2_with (first | (refine wpList_rowG 36 _ rfl rfl w.heap.size bv _ rfl (HRG.out _ (KO.out.alloc _)) Tryz.underlying36 rfl (by rw [HBL.out];exact booksSize) ?_) | (go_at_call 15;(refine (HIT.out _ ((Keeps.refl wo).alloc _)).mono ?_);rintro e4 w4 ⟨a4,c4,b4,rfl,hr4,hk4⟩;have K4:Hid (Keeps wo w4):=Lib.hid (((Keeps.refl wo).alloc (.cells #[.int .i64 m.x.id,.slice m.al m.x.left.length m.cl,.slice m.ar m.x.right.length m.cr,.int .i64 m.x.state] 48)).trans hk4);have HS4:=Lib.hid hr4;have hcap4:=Sl.cap hr4;have x0:=hk4.cell (p:=⟨wo.heap.size,0,none⟩) (v:=.int .i64 m.x.id) (by go_simp);have hz4:=World.block_lt_of_cell? _ _ x0;clear hr4 hk4))
      have X0:=Lib.hid x0
      clear c0 c1 c2 c3 x0 hz4 hix
      go_loopw [13,64] (fun vp vj wr=>∃ (j:Nat) (Q:List Prt) (a:Option Addr) (c bb:Nat),j≤ls.length∧vj=.int .i64 j∧vp=.slice a Q.length c∧Hid (Q=partsOf ((ls.take j).map PV.x) m.x.id [])∧Hid (Recs wr 2 Prt.cells a Q c bb 0)∧Hid (Keeps w4 wr)) (fun _ vj _=>ls.length - (intOf vj).toNat)
      case atStart=>exact ⟨0,[],none,0,0,Nat.zero_le _,rfl,rfl,Lib.hid (by rw [List.take_zero];rfl),Lib.hid (Sl.nil _ _),Lib.hid (Keeps.refl _)⟩
      case round=>
       obtain ⟨j,Q,aq,cq,bq,hj,rfl,rfl,HQ,HPR,HW⟩:=hrel
       have x0:=HW.out.cell X0.out
       have hz4:=World.block_lt_of_cell? _ _ x0
       by_cases hjl:j < ls.length
       ·have hr:=HLX.out.keeps (HWO.out.trans (K4.out.trans HW.out))
        have hix:=Sl.at hr Tryz.underlying40 Tryz.sizeOf59 j hjl
        obtain ⟨e,hej⟩:∃ e,ls[j]=e:=⟨_,rfl⟩
        have d0:=hr.cell PV.len j hjl 0 (.int .i64 e.x.kind) (by rw [hej];rfl)
        have d1:=hr.cell PV.len j hjl 1 (.int .i64 e.x.ent) (by rw [hej];rfl)
        have d2:=hr.cell PV.len j hjl 2 (.int .i64 e.x.oth) (by rw [hej];rfl)
        have d3:=hr.cell PV.len j hjl 3 (.int .i64 e.x.rul) (by rw [hej];rfl)
        have d4:=hr.cell PV.len j hjl 4 (.slice e.a e.x.parts.length e.c) (by rw [hej];rfl)
        simp only [Nat.add_zero,Nat.zero_add] at d0 d1 d2 d3 d4 hix
        have HSN:Hid (partsOf ((ls.take (j+1)).map PV.x) m.x.id []=if e.x.oth=m.x.id then e.x.parts else Q):=Lib.hid (by rw [take_snoc _ j hjl,hej,List.map_append,List.map_singleton,partsOf_snoc,← HQ.out])
        have HRE:Hid (∀ W,Keeps wr W→Recs W 2 Prt.cells e.a e.x.parts e.c e.b 0):=Lib.hid (fun W hW=>Sl.keeps (HIX.out e (by rw [← hej];exact List.getElem_mem hjl)) (HWO.out.trans (K4.out.trans (HW.out.trans hW))))
        clear hr hej
        by_cases he:e.x.oth=m.x.id
        ·have e1:(e.x.oth == m.x.id)=true:=by simpa using he
         have HS2:Hid (e.x.parts=partsOf ((ls.take (j+1)).map PV.x) m.x.id []):=Lib.hid (HSN.out.trans (if_pos he)).symm
         clear he
         go_wp2_with fail
         go_roundw
         case rel=>exact ⟨j+1,e.x.parts,e.a,e.c,e.b,by omega,by go_num,rfl,HS2,Lib.hid (HRE.out _ ((Keeps.refl wr).alloc _)),Lib.hid (HW.out.alloc _)⟩
         case measure=>simp [intOf];omega
        ·have e1:(e.x.oth == m.x.id)=false:=by simpa using he
         have HS2:Hid (Q=partsOf ((ls.take (j+1)).map PV.x) m.x.id []):=Lib.hid (HSN.out.trans (if_neg he)).symm
         clear he
         go_wp2_with fail
         go_roundw
         case rel=>exact ⟨j+1,Q,aq,cq,bq,by omega,by go_num,rfl,HS2,Lib.hid (HPR.out.keeps ((Keeps.refl wr).alloc _)),Lib.hid (HW.out.alloc _)⟩
         case measure=>simp [intOf];omega
       ·obtain rfl:j=ls.length:=by omega
        have hqp:Q=P:=by
         have:=HQ.out
         rw [List.take_length,HEX.out,HPO.out] at this
         exact this
        subst hqp
        have hcpq:=Sl.cap HPR.out
        have hleq:=Sl.le HPR.out
        go_wp2_with (first | (refine wpList_rowG 36 _ rfl rfl w.heap.size bv _ rfl (HRG.out _ (KO.out.trans (K4.out.trans HW.out))) Tryz.underlying36 rfl (by rw [HBL.out];exact booksSize) ?_) | (go_at_call 16;(refine (HIR.out _ (K4.out.trans HW.out)).mono ?_);rintro e6 w6 ⟨rfl,hk6⟩;have K6:Hid (Keeps wo w6):=Lib.hid ((K4.out.trans HW.out).trans hk6);have K46:Hid (Keeps w4 w6):=Lib.hid (HW.out.trans hk6);have HPR6:=Lib.hid (HPR.out.keeps hk6);clear hk6))
        clear x0 hz4
        go_loopw [19,88] (fun vs vj wr=>∃ j:Nat,j≤Q.length∧vj=.int .i64 j∧vs=.int .i64 (prtT (Q.take j))∧Hid (Keeps w6 wr)) (fun _ vj _=>Q.length - (intOf vj).toNat)
        case atStart=>exact ⟨0,Nat.zero_le _,rfl,by rw [List.take_zero];rfl,Lib.hid (Keeps.refl _)⟩
        case round=>
         obtain ⟨j,hj,rfl,rfl,HV⟩:=hrel
         by_cases hjl:j < Q.length
         ·have hr:=HPR6.out.keeps HV.out
          have hix:=Sl.at hr Tryz.underlying57 Tryz.sizeOf63 j hjl
          obtain ⟨x,hx⟩:∃ x,Q[j]=x:=⟨_,rfl⟩
          have d0:=hr.cell Prt.len j hjl 0 (.int .i64 x.acc) (by rw [hx];rfl)
          have d1:=hr.cell Prt.len j hjl 1 (.int .i64 x.amt) (by rw [hx];rfl)
          simp only [Nat.add_zero,Nat.zero_add] at d0 d1 hix
          have hT1:=prtT_small (l:=Q.take j) (fun q hq=>HPA.out q (List.mem_of_mem_take hq))
          rw [List.length_take,Nat.min_eq_left hj] at hT1
          have hxb:=HPA.out x (by rw [← hx];exact List.getElem_mem ..)
          unfold Prt.OkA at hxb
          have HT:Hid (prtT (Q.take (j+1))=prtT (Q.take j)+x.amt):=Lib.hid (by rw [take_snoc _ _ hjl,hx,prtT_snoc])
          obtain ⟨S,hS⟩:∃ S,prtT (Q.take j)=S:=⟨_,rfl⟩
          rw [hS] at hT1 HT ⊢
          have hw1:wrap64 (S+x.amt)=S+x.amt:=IntWalk.wrap64_in _ (by omega)
          have hw2:IntKind.i64.wrap (S+x.amt)=S+x.amt:=IntWalk.i64_in _ (by omega)
          clear hr hx hS hT1 hxb
          go_wp2_with fail
          go_roundw
          case rel=>exact ⟨j+1,by omega,by go_num,by rw [HT.out],Lib.hid (HV.out.alloc _)⟩
          case measure=>simp [intOf];omega
         ·obtain rfl:j=Q.length:=by omega
          rw [List.take_length,HPZ.out]
          have hs1:=HSA.out acc
          rw [if_pos rfl] at hs1
          have HSU:Hid (∀ W,Keeps w6 W→Calls Tryz.prog 17 #[.slice a4 own.length c4,.slice aq Q.length cq,.int .i64 acc] W fun e w'=>e=.returned (.int .i64 T)∧W=w'):=Lib.hid (fun W hW=>by
           have:=rsum_any own Q acc a4 c4 b4 aq cq bq W (HS4.out.keeps (K46.out.trans hW)) (HPR6.out.keeps hW) hol HOA.out (by omega) HPA.out
           rw [hs1] at this
           exact this)
          have c4g:=(KO.out.trans (K6.out.trans HV.out)).cell C4.out
          have hzc:=World.block_lt_of_cell? _ _ c4g
          clear hs1
          go_wp2_with (go_at_call 17;(refine (HSU.out _ HV.out).mono ?_);rintro e7 w7 ⟨rfl,rfl⟩)
          clear HSU c4g hzc
          go_loopw [115] (fun vj wr2=>∃ j:Nat,j≤g.chart.length∧vj=.int .i64 j∧wr=wr2) (fun vj _=>g.chart.length - (intOf vj).toNat)
          case atStart=>exact ⟨0,Nat.zero_le _,rfl,rfl⟩
          case round=>
           obtain ⟨j,hj,rfl,rfl⟩:=hrel
           have c4g:=(KO.out.trans (K6.out.trans HV.out)).cell C4.out
           have hzc:=World.block_lt_of_cell? _ _ c4g
           by_cases hjl:j < g.chart.length
           ·have hr:=HCH.out.keeps (HK0.out.trans (KO.out.trans (K6.out.trans HV.out)))
            have hix:=Sl.at hr Tryz.underlying24 Tryz.sizeOf68 j hjl
            obtain ⟨x,hx⟩:∃ x,g.chart[j]=x:=⟨_,rfl⟩
            have d0:=hr.cell Acc.len j hjl 0 (.int .i64 x.code) (by rw [hx];rfl)
            simp only [Nat.add_zero,Nat.zero_add] at d0 hix
            clear hr hx
            by_cases hc:x.code=acc
            ·have e1:(x.code != acc)=false:=by simp [bne,hc]
             clear hc
             go_wp2_with fail
             go_roundw
             case rel=>exact ⟨j+1,by omega,by go_num,trivial⟩
             case measure=>simp [intOf];omega
            ·have e1:(x.code != acc)=true:=by simpa [bne] using hc
             have hs1:=HSA.out x.code
             rw [if_neg hc] at hs1
             have HSU:Hid (∀ W,Keeps w6 W→Calls Tryz.prog 17 #[.slice a4 own.length c4,.slice aq Q.length cq,.int .i64 x.code] W fun e w'=>e=.returned (.int .i64 0)∧W=w'):=Lib.hid (fun W hW=>by
              have:=rsum_any own Q x.code a4 c4 b4 aq cq bq W (HS4.out.keeps (K46.out.trans hW)) (HPR6.out.keeps hW) hol HOA.out (by omega) HPA.out
              rw [hs1] at this
              exact this)
             clear hc hs1
             go_wp2_with (go_at_call 17;(refine (HSU.out _ HV.out).mono ?_);rintro e7 w7 ⟨rfl,rfl⟩)
             go_roundw
             case rel=>exact ⟨j+1,by omega,by go_num,trivial⟩
             case measure=>simp [intOf];omega
           ·go_wp2_with fail
            go_roundw
            case rel=>exact ⟨k+1,by omega,by go_num,Lib.hid (HWO.out.trans (K6.out.trans HV.out))⟩
            case measure=>simp [intOf];omega
    ·go_wp2_with fail
     go_ret
     exact ⟨rfl,HK0.out.trans KO.out⟩
  ·have hnil:l1=[]:=by rw [← hl1];exact posts_bad (by rw [her];exact h0)
   subst hnil
   have e0:(er != 0)=true:=by simpa using h0
   clear H HI hrg hk0 hq SM hA her hl1 h0
   go_enter Tryz.func7,Tryz.ntmps7
   go_upto_region 1 with fail
   try rw [hW1]
   clear hW1
   go_wp2_with (first | (go_at_call 9;(refine (awake_any _).mono ?_);rintro e1 w1 ⟨rfl,hk1⟩;have K1:=Lib.hid hk1;clear hk1) | (refine wpList_rowG 36 _ rfl rfl w.heap.size bv _ rfl (HRG.out _ (K1.out)) Tryz.underlying36 rfl (by rw [HBL.out];exact booksSize) ?_) | (go_at_call 10;(refine (HF.out _ K1.out).mono ?_);rintro e2 w2 ⟨rfl,hk2⟩;have K2:=Lib.hid (K1.out.trans hk2);clear hk2) | (refine wpList_rowG 36 _ rfl rfl w.heap.size bv _ rfl (HRG.out _ (K2.out)) Tryz.underlying36 rfl (by rw [HBL.out];exact booksSize) ?_) | (go_at_call 11;(refine (HP1.out _ K2.out).mono ?_);rintro e3 w3 ⟨v3,rfl,hp3,hk3⟩;have HP3:=Lib.hid hp3;have K3:=Lib.hid (K2.out.trans hk3);obtain ⟨ax,cx,rfl,hlx,hcx⟩:=hp3.shape;clear hp3 hk3))
   go_ret
   exact ⟨rfl,HK0.out.trans K3.out⟩
end Go.Proofs.YtoaidbhiciaeaaaGreat

end
