/- Walks and plain facts that the claim rests on (IcF, REl, RRm2, LawIEl). No condition. -/
import Derived.Test.YtoaidbhiciaeaaaGreatUnC
import Derived.Test.YtoaidbhiciaeaaaGreatPo47
import Derived.Test.YtoaidbhiciaeaaaGreatPo48
import Derived.Test.YtoaidbhiciaeaaaGreatUnA
import Derived.Test.YtoaidbhiciaeaaaGreatPo42
import Derived.Test.YtoaidbhiciaeaaaGreatUnB
import Derived.Test.YtoaidbhiciaeaaaGreatUn0
set_option linter.unusedSimpArgs false
set_option linter.unusedVariables false
set_option maxHeartbeats 16000000
section
namespace Go.Proofs.YtoaidbhiciaeaaaGreat
open Go.RowKit
set_option maxRecDepth 100000 in
theorem ielim_any (bv:List Value) (g:Grp) (es:List JV) (hs:List Hol) (ms:List MV) (items:List Itm) (p:Int) (ao:Option Addr) (cap b o:Nat) (w:World) (H:BkG w bv g es hs ms) (HI:Recs w 7 Itm.cells ao items cap b o) (SM:SmallB g es hs ms items) (hA:∀ x∈items,x.OkA) :
  Calls Tryz.prog 18 #[.agg bv.toArray,.slice ao items.length cap,.int .i64 p] w fun e w'=>∃ v,e=.returned (.tuple #[v,.int .i64 (idsF g es hs ms items p).2])∧IntL w' v (idsF g es hs ms items p).1∧Keeps w w':=by
 obtain ⟨er,her⟩:∃ q,errI g es hs ms p=q:=⟨_,rfl⟩
 have HN:Hid (Calls Tryz.prog 25 #[.agg bv.toArray,.slice ao items.length cap,.int .i64 p] (w.alloc (.cells bv.toArray 36)) fun e w'=>∃ v,e=.returned (.tuple #[v,.int .i64 er])∧Keeps (w.alloc (.cells bv.toArray 36)) w'∧(er=0→∃ B mb,v=.pointer (some ⟨B,0,none⟩)∧Fin w' B mb bv items (dayA g p) (dayB g p))):=Lib.hid (by
  have:=finder_any bv g es hs ms items p ao cap b o _ (H.keeps ((Keeps.refl w).alloc (.cells bv.toArray 36))) (HI.keeps ((Keeps.refl w).alloc (.cells bv.toArray 36))) SM
  rw [her] at this
  exact this)
 have HBL:=Lib.hid H.bks.len
 have hrg:=box_range w bv 36
 have hk0:Keeps w (w.alloc (.cells bv.toArray 36)):=(Keeps.refl w).alloc _
 have hz1:w.heap.size+1=(w.alloc (.cells bv.toArray 36)).heap.size:=by simp
 obtain ⟨W1,hW1⟩:∃ W1,w.alloc (.cells bv.toArray 36)=W1:=⟨_,rfl⟩
 rw [hW1] at hrg hk0 HN hz1
 have HW1:=Lib.hid hk0
 have HRG:Hid (∀ W,Keeps W1 W→W.rangeAt w.heap.size 0 bv):=Lib.hid (fun W hk=>range_keeps hrg hk)
 have HB:=Lib.hid H
 have HSM:=Lib.hid SM
 have HAI:=Lib.hid hA
 have hml:=SM.mlen
 clear H HI SM hrg hk0 hA
 by_cases h0:er=0
 ·subst h0
  have HE:=Lib.hid (rfl:(0:Int)=0)
  have HPF:Hid (idsF g es hs ms items p=((elisS g es hs ms items p).map Eli.id,0)):=Lib.hid (by unfold idsF;rw [if_pos her])
  have HAM:=Lib.hid (errI_zero her).2.2
  have hel:=elisS_len g es hs ms items p
  clear her
  go_enter Tryz.func18,Tryz.ntmps18
  go_upto_region 1 with fail
  try rw [hW1]
  try rw [hz1]
  clear hW1 hz1
  go_wp2_with (first | (refine wpList_rowG 36 _ rfl rfl w.heap.size bv _ rfl (HRG.out _ (Keeps.refl W1)) Tryz.underlying36 rfl (by rw [HBL.out];exact booksSize) ?_) | (go_at_call 25;(refine (HN.out).mono ?_);rintro e1 w1 ⟨v1,rfl,hk1,hf1⟩;obtain ⟨B,mb,rfl,hfin⟩:=hf1 HE.out;have K1:=Lib.hid (HW1.out.trans hk1);have HFI:=Lib.hid hfin;clear hk1 hf1 hfin) | (go_at_call 26;(refine (fall_any bv g es hs ms items B mb _ _ w1 HFI.out (HB.out.keeps K1.out) HSM.out HAM.out).mono ?_);rintro e2 w2 ⟨ts,ao2,cap2,b2,rfl,hs2,hi2,hx2,hk2⟩;have K2:=Lib.hid (K1.out.trans hk2);have HF2:=Lib.hid (HFI.out.keeps hk2);have HS2:=Lib.hid hs2;have HI2:=Lib.hid hi2;have HX2:Hid (ts.map EV.x=elisS g es hs ms items p):=Lib.hid hx2;have hcap2:=Sl.cap hs2;have hle2:=Sl.le hs2;clear hs2 hi2 hx2 hk2))
  have htl:ts.length=(elisS g es hs ms items p).length:=by
   have:=congrArg List.length HX2.out
   rwa [List.length_map] at this
  have htb:ts.length≤1000:=by omega
  have HTL:=Lib.hid htl
  clear htl hel
  go_loopw [10,26] (fun v vi wr=>∃ k:Nat,k≤ts.length∧vi=.int .i64 k∧Hid (Keeps w2 wr∧wr.ownsRow w2.heap.size 3 1 v k ((((elisS g es hs ms items p).take k).map Eli.id).map (.int .i64)))) (fun _ vi _=>ts.length - (intOf vi).toNat)
  case atStart=>exact ⟨0,Nat.zero_le _,rfl,Lib.hid ⟨Keeps.refl _,by rw [List.take_zero];exact World.ownsRow_nil _ _ _ _⟩⟩
  case round=>
   obtain ⟨k,hk,rfl,HW⟩:=hrel
   by_cases hlt:k < ts.length
   ·have hr:=HS2.out.keeps HW.out.1
    have hix:=Sl.at hr Tryz.underlying80 Tryz.sizeOf83 k hlt
    obtain ⟨y,hyk⟩:∃ y,ts[k]=y:=⟨_,rfl⟩
    have c0:=hr.cell EV.len k hlt 0 (.int .i64 y.x.id) (by rw [hyk];rfl)
    have c1:=hr.cell EV.len k hlt 1 (.int .i64 y.x.left) (by rw [hyk];rfl)
    have c2:=hr.cell EV.len k hlt 2 (.slice y.a y.x.own.length y.c) (by rw [hyk];rfl)
    simp only [Nat.add_zero,Nat.zero_add] at c0 c1 c2 hix
    have HLX:Hid (k < (elisS g es hs ms items p).length):=Lib.hid (by have:=HTL.out;omega)
    have hyx:(elisS g es hs ms items p)[k]'HLX.out=y.x:=by
     have:(ts.map EV.x)[k]'(by rw [List.length_map];exact hlt)=y.x:=by rw [List.getElem_map,hyk]
     rw [← this]
     congr 1
     exact HX2.out.symm
    have HTK:Hid ((((elisS g es hs ms items p).take (k+1)).map Eli.id).map (Value.int .i64)=(((elisS g es hs ms items p).take k).map Eli.id).map (Value.int .i64) ++ [.int .i64 y.x.id]):=Lib.hid (by rw [take_snoc _ k HLX.out,hyx];simp)
    clear hr hyk hyx
    go_wp2_with (at_builtin;(refine wpList_appx elemInt rfl (.tmp 30) (.tmp 33) rfl w2 _ k _ rfl w2.heap.size (own_keepsH HW.out.2 ((Keeps.refl wr).alloc (.cells #[.int .i64 y.x.id,.int .i64 y.x.left,.slice y.a y.x.own.length y.c] 83))) (HW.out.1.alloc _) (HW.out.1.alloc _).size [.int .i64 y.x.id] _ 1 rfl (by simp) rfl (fun u hu=>by cases List.mem_singleton.1 hu;rfl) (by omega) (by omega) ?_);intro v' w9 hown' hb' hsz';have HX:Hid (Keeps w2 w9∧w9.ownsRow w2.heap.size 3 1 v' (k+1) ((((elisS g es hs ms items p).take (k+1)).map Eli.id).map (.int .i64))):=Lib.hid ⟨hb',by rw [HTK.out];exact hown'⟩;clear hown' hb' hsz')
    go_roundw
    case rel=>exact ⟨k+1,by omega,by go_num,HX⟩
    case measure=>simp [intOf];omega
   ·obtain rfl:k=ts.length:=by omega
    have hov:=HW.out.2
    rw [List.take_of_length_le (by rw [HTL.out];exact Nat.le_refl _)] at hov
    have HIL:Hid (IntL wr u10 ((elisS g es hs ms items p).map Eli.id)):=Lib.hid (IntL.own (base:=w2.heap.size) (e:=3) (by rw [List.length_map,← HTL.out];exact hov))
    clear hov
    go_wp2_with fail
    refine bodyPost_ret (results_tmp2 rfl _ _ _) rfl ?_
    rw [HPF.out]
    exact ⟨_,rfl,HIL.out,K2.out.trans HW.out.1⟩
 ·have HPF:Hid (idsF g es hs ms items p=([],er)):=Lib.hid (by unfold idsF;rw [if_neg (by rw [her];exact h0),her])
  have e0:(er != 0)=true:=by simpa using h0
  clear h0 her
  go_enter Tryz.func18,Tryz.ntmps18
  go_upto_region 1 with fail
  try rw [hW1]
  try rw [hz1]
  clear hW1 hz1
  go_wp2_with (first | (refine wpList_rowG 36 _ rfl rfl w.heap.size bv _ rfl (HRG.out _ (Keeps.refl W1)) Tryz.underlying36 rfl (by rw [HBL.out];exact booksSize) ?_) | (go_at_call 25;(refine (HN.out).mono ?_);rintro e1 w1 ⟨v1,rfl,hk1,_⟩;have K1:=Lib.hid hk1;clear hk1))
  refine bodyPost_ret (results_tmp2 rfl _ _ _) rfl ?_
  rw [HPF.out]
  exact ⟨_,rfl,⟨none,0,0,0,rfl,Sl.nil _ _⟩,HW1.out.trans K1.out⟩
theorem same_any (xs:List Int) (v1 v2:Value) (w:World) (H1:IntL w v1 xs) (H2:IntL w v2 xs) :
  Calls Tryz.prog 20 #[v1,v2] w fun e w'=>e=.returned (.bool true)∧Keeps w w':=by
 obtain ⟨ao1,cap1,b1,o1,rfl,h1⟩:=H1
 obtain ⟨ao2,cap2,b2,o2,rfl,h2⟩:=H2
 have hcap1:=Sl.cap h1
 have hle1:=Sl.le h1
 have hcap2:=Sl.cap h2
 have hle2:=Sl.le h2
 have HH1:=Lib.hid h1
 have HH2:=Lib.hid h2
 clear h1 h2
 go_enter Tryz.func20,Tryz.ntmps20
 go_wp2_with fail
 go_loopw [13] (fun vi wr=>∃ k:Nat,k≤xs.length∧vi=.int .i64 k∧Hid (Keeps w wr)) (fun vi _=>xs.length - (intOf vi).toNat)
 case atStart=>exact ⟨0,Nat.zero_le _,rfl,Lib.hid (Keeps.refl _)⟩
 case round=>
  obtain ⟨k,hk,rfl,HW⟩:=hrel
  by_cases hlt:k < xs.length
  ·have r1:=HH1.out.keeps HW.out
   have r2:=HH2.out.keeps HW.out
   have hix1:=Sl.at1 r1 Tryz.underlying69 Tryz.sizeOf3 k hlt
   have hix2:=Sl.at1 r2 Tryz.underlying69 Tryz.sizeOf3 k hlt
   obtain ⟨x,hx⟩:∃ x,xs[k]=x:=⟨_,rfl⟩
   have c1:=r1.cell k (.int .i64 x) (by rw [List.getElem?_map,List.getElem?_eq_getElem hlt,hx];rfl)
   have c2:=r2.cell k (.int .i64 x) (by rw [List.getElem?_map,List.getElem?_eq_getElem hlt,hx];rfl)
   clear r1 r2 hx
   go_upto_region 6 with fail
   go_quiet (fail)
   go_wp2_with fail
   go_roundw
   case rel=>exact ⟨k+1,by omega,by go_num,Lib.hid (HW.out.drewN _)⟩
   case measure=>simp [intOf];omega
  ·go_wp2_with fail
   go_ret
   exact ⟨rfl,HW.out⟩
end Go.Proofs.YtoaidbhiciaeaaaGreat

end
section
namespace Go.Proofs.YtoaidbhiciaeaaaGreat
open Go.RowKit
set_option maxRecDepth 100000 in
theorem relim_any (bv:List Value) (g:Grp) (es:List JV) (hs:List Hol) (ms:List MV) (items:List Itm) (p:Int) (ao:Option Addr) (cap b o:Nat) (w:World) (H:BkG w bv g es hs ms) (HI:Recs w 7 Itm.cells ao items cap b o) (SM:SmallB g es hs ms items) (hA:∀ x∈items,x.OkA) :
  Calls Tryz.prog 19 #[.agg bv.toArray,.slice ao items.length cap,.int .i64 p] w fun e w'=>∃ v,e=.returned (.tuple #[v,.int .i64 (idsF g es hs ms items p).2])∧IntL w' v (idsF g es hs ms items p).1∧Keeps w w':=by
 obtain ⟨er,her⟩:∃ q,errI g es hs ms p=q:=⟨_,rfl⟩
 have hk0:Keeps w (w.alloc (.cells bv.toArray 36)):=(Keeps.refl w).alloc _
 have hrg:=box_range w bv 36
 have hz1:w.heap.size+1=(w.alloc (.cells bv.toArray 36)).heap.size:=by simp
 obtain ⟨W1,hW1⟩:∃ W1,w.alloc (.cells bv.toArray 36)=W1:=⟨_,rfl⟩
 rw [hW1] at hrg hk0 hz1
 have HCK:Hid (Calls Tryz.prog 28 #[.agg bv.toArray,.int .i64 p] W1 fun e w'=>e=.returned (.int .i64 er)∧Keeps W1 w'):=Lib.hid (by
  have:=rcheck_any bv g es hs ms items p W1 (H.keeps hk0) SM
  rw [her] at this
  exact this)
 obtain ⟨aoM,capM,bM,oM,hb24,hM⟩:=H.bks.mts
 have HBL:=Lib.hid H.bks.len
 have HW1:=Lib.hid hk0
 have HRG:Hid (∀ W,Keeps W1 W→W.rangeAt w.heap.size 0 bv):=Lib.hid (fun W hk=>range_keeps hrg hk)
 have g24:=hrg 24 _ hb24
 simp only [Nat.zero_add] at g24
 have G24:=Lib.hid g24
 by_cases h0:er=0
 ·subst h0
  obtain ⟨hgv,hhv,hav⟩:=errI_zero her
  have hids:=allMB_ids hav
  have hpf:idsF g es hs ms items p=((elisR g es hs items (dayB g p) (sortM ms)).map Eli.id,0):=by
   unfold idsF
   rw [if_pos her,elis_sort _ _ _ _ _ _ hids]
   rfl
  have hLm:∀ m∈sortM ms,m∈ms:=fun m hm=>(sortM_perm ms).mem_iff.1 hm
  have hLl:(sortM ms).length≤1000:=by rw [sortM_len];exact SM.mlen
  have hso:∀ W,Keeps W1 W→Calls Tryz.prog 29 #[.slice aoM ms.length capM] W fun e w'=>∃ v,e=.returned v∧w'.ownsRow W.heap.size 48 4 v (sortM ms).length ((sortM ms).flatMap MV.cells)∧Keeps W w':=fun W hk=>rsort_any ms aoM capM bM oM W (hM.row.keeps (hk0.trans hk)) SM.mlen
  obtain ⟨L,hL⟩:∃ L,sortM ms=L:=⟨_,rfl⟩
  rw [hL] at hpf hLm hLl hso
  have HPF:=Lib.hid hpf
  have HSO:Hid (∀ W,Keeps W1 W→Calls Tryz.prog 29 #[.slice aoM ms.length capM] W fun e w'=>∃ v,e=.returned v∧w'.ownsRow W.heap.size 48 4 v L.length (L.flatMap MV.cells)∧Keeps W w'):=Lib.hid hso
  have HLM:=Lib.hid hLm
  have HB:=Lib.hid H
  have HSM:=Lib.hid SM
  have HAI:=Lib.hid hA
  have HII:=Lib.hid HI
  have HMM:=Lib.hid hM
  clear H HI SM hA hM hrg hk0 her hgv hhv hav hids hpf hLm hso hL hb24
  go_enter Tryz.func19,Tryz.ntmps19
  go_upto_region 1 with fail
  try rw [hW1]
  try rw [hz1]
  clear hW1 hz1
  go_wp2_with (first | (refine wpList_rowG 36 _ rfl rfl w.heap.size bv _ rfl (HRG.out _ (Keeps.refl _)) Tryz.underlying36 rfl (by rw [HBL.out];exact booksSize) ?_) | (go_at_call 28;(refine (HCK.out).mono ?_);rintro e1 w1 ⟨rfl,hk1⟩;have K1:Hid (Keeps W1 w1):=Lib.hid hk1;have g24':=hk1.cell G24.out;have hzg:=World.block_lt_of_cell? _ _ g24';clear hk1) | (go_at_call 29;(refine (HSO.out _ K1.out).mono ?_);rintro e2 w2 ⟨v2,rfl,ho2,hk2⟩;obtain ⟨ao2,cap2,b2,rfl,hs2⟩:=Sl.own ho2;have K2:Hid (Keeps W1 w2):=Lib.hid (K1.out.trans hk2);have HS2:Hid (Recs w2 4 MV.cells ao2 L cap2 b2 0):=Lib.hid hs2;have hcap2:=Sl.cap hs2;have hle2:=Sl.le hs2;clear ho2 hs2 hk2 g24' hzg))
  clear g24
  go_loopw [9,11] (fun v vi wr=>∃ i:Nat,i≤L.length∧vi=.int .i64 i∧Hid (Keeps w2 wr∧wr.ownsRow w2.heap.size 3 1 v (elisR g es hs items (dayB g p) (L.take i)).length (((elisR g es hs items (dayB g p) (L.take i)).map Eli.id).map (.int .i64)))) (fun _ vi _=>L.length - (intOf vi).toNat)
  case atStart=>exact ⟨0,Nat.zero_le _,rfl,Lib.hid ⟨Keeps.refl _,by rw [List.take_zero];exact World.ownsRow_nil _ _ _ _⟩⟩
  case round=>
   obtain ⟨i,hi,rfl,HW⟩:=hrel
   obtain ⟨wo,rfl⟩:∃ z:World,z=wr:=⟨_,rfl⟩
   by_cases hlt:i < L.length
   ·have hr:=HS2.out.keeps HW.out.1
    have hix:=Sl.at hr Tryz.underlying33 Tryz.sizeOf48 i hlt
    obtain ⟨m,hmk⟩:∃ m,L[i]=m:=⟨_,rfl⟩
    have c0:=hr.cell MV.len i hlt 0 (.int .i64 m.x.id) (by rw [hmk];rfl)
    have c1:=hr.cell MV.len i hlt 1 (.slice m.al m.x.left.length m.cl) (by rw [hmk];rfl)
    have c2:=hr.cell MV.len i hlt 2 (.slice m.ar m.x.right.length m.cr) (by rw [hmk];rfl)
    have c3:=hr.cell MV.len i hlt 3 (.int .i64 m.x.state) (by rw [hmk];rfl)
    simp only [Nat.add_zero,Nat.zero_add] at c0 c1 c2 c3 hix
    have hmem:m∈ms:=HLM.out m (by rw [← hmk];exact List.getElem_mem hlt)
    have HCC:Hid (∀ W,Keeps wo W→W.cell? ⟨b2,i * 4,none⟩=some (.int .i64 m.x.id)∧W.cell? ⟨b2,i * 4+1,none⟩=some (.slice m.al m.x.left.length m.cl)∧W.cell? ⟨b2,i * 4+2,none⟩=some (.slice m.ar m.x.right.length m.cr)∧W.cell? ⟨b2,i * 4+3,none⟩=some (.int .i64 m.x.state)):=Lib.hid (fun W hW=>⟨hW.cell c0,hW.cell c1,hW.cell c2,hW.cell c3⟩)
    have KW1:Keeps W1 wo:=K2.out.trans HW.out.1
    have hit:∀ W,Keeps wo W→Calls Tryz.prog 15 #[.agg bv.toArray,.slice ao items.length cap,.agg #[.int .i64 m.x.id,.slice m.al m.x.left.length m.cl,.slice m.ar m.x.right.length m.cr,.int .i64 m.x.state],.int .i64 p] W (IO W (eliB g es hs items (dayB g p) m.x) (eliM es items m.x).own):=fun W hk=>
     ritems_any bv g es hs ms items p m.x ao cap b o m.al m.cl m.bl m.ol m.ar m.cr m.br m.or_ W (HB.out.keeps (HW1.out.trans (KW1.trans hk))) HSM.out (HII.out.keeps (HW1.out.trans (KW1.trans hk))) ((HMM.out.left m hmem).keeps (HW1.out.trans (KW1.trans hk))) ((HMM.out.right m hmem).keeps (HW1.out.trans (KW1.trans hk))) (HSM.out.sides m hmem).1 (HSM.out.sides m hmem).2
    have HTK0:Hid (elisR g es hs items (dayB g p) (L.take (i+1))=if eliB g es hs items (dayB g p) m.x=true then elisR g es hs items (dayB g p) (L.take i) ++ [eliM es items m.x] else elisR g es hs items (dayB g p) (L.take i)):=Lib.hid (by rw [take_snoc _ i hlt,hmk,elisR_snoc])
    have hnl:(elisR g es hs items (dayB g p) (L.take i)).length≤i:=by
     have h3:=elis_len g es hs items (dayB g p) (L.take i)
     rw [List.length_take] at h3
     omega
    obtain ⟨own,hown⟩:∃ own,(eliM es items m.x).own=own:=⟨_,rfl⟩
    rw [hown] at hit
    clear hr hmk c0 c1 c2 c3 hown
    cases hq:eliB g es hs items (dayB g p) m.x with
    | false=>
     have HTK:Hid (elisR g es hs items (dayB g p) (L.take (i+1))=elisR g es hs items (dayB g p) (L.take i)):=Lib.hid (by rw [HTK0.out,hq];rfl)
     rw [hq] at hit
     have HIT:=Lib.hid hit
     clear hit hq HTK0 KW1 hmem hnl
     go_upto_region 9 with fail
     refine wp_region_steps (A:=?_) Keeps [some 30,some 31,some 32,some 33,some 34,some 35,some 36,some 37,some 29,some 38,some 39,some 12,some 13] [[],[],[],[],[2,3],[4],[],[0,1,5,6],[7],[8],[8],[9],[10]] 13 (by kernel_rfl) (by kernel_rfl) (by kernel_rfl) (by kernel_rfl) (by kernel_rfl) (by kernel_rfl) Keeps.refl (fun _ _ _=>Keeps.trans) ?_ ?_
     rotate_left
     ·intro f;simp only [putL,Act.put,List.setIfInBounds_toArray,List.set_cons_zero,List.set_cons_succ,Nat.zero_add,Nat.reduceAdd];exact rfl
     refine Steps.pure (v:=.agg bv.toArray) Keeps.refl rfl (fun f w' hR hV=>⟨?_,?_⟩) ?_
     ·(rfl)
     ·(clear hV;have hkw:=(Keeps.refl wo).drew.trans hR;obtain ⟨c0,c1,c2,c3⟩:=HCC.out _ hkw;exact exec_load_mid 36 (.tmp 3) rfl w.heap.size rfl bv _ (HRG.out _ (K2.out.trans (HW.out.1.trans hkw))) Tryz.underlying36 rfl (by rw [HBL.out];exact booksSize))
     iterate 6 (refine Steps.pure (v:=?_) Keeps.refl rfl (fun f w' hR hV=>⟨?_,?_⟩) ?_;rotate_left;(focus rfl);(focus ((repeat (obtain ⟨hq,hV⟩:=hV;(try replace hq:_=_:=hq)));have hkw:=(Keeps.refl wo).drew.trans hR;obtain ⟨c0,c1,c2,c3⟩:=HCC.out _ hkw;go_simp;all_goals (try with_reducible rfl))))
     refine Steps.call (fun _ v=>∃ u,v=.tuple #[u,.bool false]) rfl (fun _ _ _ _ h=>h) (fun f w' hR hV=>⟨?_,?_⟩) ?_
     ·(rfl)
     ·(obtain ⟨h0,h1,h5,h6,_⟩:=hV;replace h0:f 0=_:=h0;replace h1:f 1=_:=h1;replace h5:f 5=_:=h5;replace h6:f 6=_:=h6;have hkw:=(Keeps.refl wo).drew.trans hR;obtain ⟨c0,c1,c2,c3⟩:=HCC.out _ hkw;go_simp;go_at_call 15;refine (HIT.out _ hkw).mono ?_;rintro e w5 ⟨u,rfl,hk5,_,_⟩;exact StepPost.of _ rfl ⟨u,rfl⟩ hk5)
     refine Steps.call (fun _ v=>∃ u,v=.tuple #[u,.bool false]) rfl (fun _ _ _ _ h=>h) (fun f w' hR hV=>⟨?_,?_⟩) ?_
     ·(rfl)
     ·(obtain ⟨h7,_⟩:=hV;replace h7:∃ u,(f 7)=.tuple #[u,.bool false]:=h7;have hkw:=(Keeps.refl wo).drew.trans hR;obtain ⟨c0,c1,c2,c3⟩:=HCC.out _ hkw;go_simp;obtain ⟨u,e7⟩:=h7;go_simp;exact StepPost.of _ rfl ⟨u,rfl⟩ (Keeps.refl _))
     refine Steps.call (fun _ _=>True) rfl (fun _ _ _ _ h=>h) (fun f w' hR hV=>⟨?_,?_⟩) ?_
     ·(rfl)
     ·(obtain ⟨h8,_⟩:=hV;replace h8:∃ u,(f 8)=.tuple #[u,.bool false]:=h8;have hkw:=(Keeps.refl wo).drew.trans hR;obtain ⟨c0,c1,c2,c3⟩:=HCC.out _ hkw;go_simp;obtain ⟨u,e8⟩:=h8;go_simp;exact StepPost.of _ rfl trivial (Keeps.refl _))
     refine Steps.pure (v:=.bool false) Keeps.refl rfl (fun f w' hR hV=>⟨?_,?_⟩) ?_
     ·(rfl)
     ·(obtain ⟨h8,_⟩:=hV;replace h8:∃ u,(f 8)=.tuple #[u,.bool false]:=h8;have hkw:=(Keeps.refl wo).drew.trans hR;obtain ⟨c0,c1,c2,c3⟩:=HCC.out _ hkw;obtain ⟨u,e8⟩:=h8;go_simp;all_goals (try with_reducible rfl))
     refine Steps.call (fun _ _=>True) rfl (fun _ _ _ _ h=>h) (fun f w' hR hV=>⟨?_,?_⟩) ?_
     ·(rfl)
     ·(obtain ⟨h9,_⟩:=hV;replace h9:True:=h9;have hkw:=(Keeps.refl wo).drew.trans hR;obtain ⟨c0,c1,c2,c3⟩:=HCC.out _ hkw;go_simp;go_simp;exact StepPost.of _ rfl trivial (Keeps.refl _))
     (refine Steps.pure (v:=?_) Keeps.refl rfl (fun f w' hR hV=>⟨?_,?_⟩) ?_;rotate_left;(focus rfl);(focus ((repeat (obtain ⟨hq,hV⟩:=hV;(try replace hq:_=_:=hq)));have hkw:=(Keeps.refl wo).drew.trans hR;obtain ⟨c0,c1,c2,c3⟩:=HCC.out _ hkw;go_simp;all_goals (try with_reducible rfl))))
     all_goals (refine Steps.done [12] (by kernel_rfl) rfl (fun f wz hR hV=>?_);obtain ⟨h12,_⟩:=hV;replace h12:f 12=_:=h12;simp only [h12])
     have HKZ:=Lib.hid ((Keeps.refl wo).drew.trans hR)
     clear hR h12
     go_wp2_with fail
     go_roundw
     case rel=>exact ⟨i+1,by omega,by go_num,Lib.hid ⟨HW.out.1.trans HKZ.out,by rw [HTK.out];exact own_keepsH HW.out.2 HKZ.out⟩⟩
     case measure=>simp [intOf];omega
    | true=>
     have HTK:Hid (elisR g es hs items (dayB g p) (L.take (i+1))=elisR g es hs items (dayB g p) (L.take i) ++ [eliM es items m.x]):=Lib.hid (by rw [HTK0.out,hq];rfl)
     rw [hq] at hit
     have HIT:=Lib.hid hit
     obtain ⟨X,hX⟩:∃ X,elisR g es hs items (dayB g p) (L.take i)=X:=⟨_,rfl⟩
     have how:=HW.out.2
     rw [hX] at how hnl HTK
     obtain ⟨n,hn⟩:∃ n,X.length=n:=⟨_,rfl⟩
     rw [hn] at how hnl
     have HOW:=Lib.hid how
     have HTI:Hid ((X ++ [eliM es items m.x]).length=n+1∧((X ++ [eliM es items m.x]).map Eli.id).map (Value.int .i64)=(X.map Eli.id).map (Value.int .i64) ++ [.int .i64 m.x.id]):=Lib.hid ⟨by rw [List.length_append,hn];rfl,by rw [List.map_append,List.map_append];rfl⟩
     clear hit hq HTK0 KW1 hmem how hX hn
     go_upto_region 9 with fail
     refine wp_region_steps (A:=?_) Keeps [some 30,some 31,some 32,some 33,some 34,some 35,some 36,some 37,some 29,some 38,some 39,some 12,some 13] [[],[],[],[],[2,3],[4],[],[0,1,5,6],[7],[8],[8],[9],[10]] 13 (by kernel_rfl) (by kernel_rfl) (by kernel_rfl) (by kernel_rfl) (by kernel_rfl) (by kernel_rfl) Keeps.refl (fun _ _ _=>Keeps.trans) ?_ ?_
     rotate_left
     ·intro f;simp only [putL,Act.put,List.setIfInBounds_toArray,List.set_cons_zero,List.set_cons_succ,Nat.zero_add,Nat.reduceAdd];exact rfl
     refine Steps.pure (v:=.agg bv.toArray) Keeps.refl rfl (fun f w' hR hV=>⟨?_,?_⟩) ?_
     ·(rfl)
     ·(clear hV;have hkw:=(Keeps.refl wo).drew.trans hR;obtain ⟨c0,c1,c2,c3⟩:=HCC.out _ hkw;exact exec_load_mid 36 (.tmp 3) rfl w.heap.size rfl bv _ (HRG.out _ (K2.out.trans (HW.out.1.trans hkw))) Tryz.underlying36 rfl (by rw [HBL.out];exact booksSize))
     iterate 6 (refine Steps.pure (v:=?_) Keeps.refl rfl (fun f w' hR hV=>⟨?_,?_⟩) ?_;rotate_left;(focus rfl);(focus ((repeat (obtain ⟨hq,hV⟩:=hV;(try replace hq:_=_:=hq)));have hkw:=(Keeps.refl wo).drew.trans hR;obtain ⟨c0,c1,c2,c3⟩:=HCC.out _ hkw;go_simp;all_goals (try with_reducible rfl))))
     refine Steps.call (fun _ v=>∃ u,v=.tuple #[u,.bool true]) rfl (fun _ _ _ _ h=>h) (fun f w' hR hV=>⟨?_,?_⟩) ?_
     ·(rfl)
     ·(obtain ⟨h0,h1,h5,h6,_⟩:=hV;replace h0:f 0=_:=h0;replace h1:f 1=_:=h1;replace h5:f 5=_:=h5;replace h6:f 6=_:=h6;have hkw:=(Keeps.refl wo).drew.trans hR;obtain ⟨c0,c1,c2,c3⟩:=HCC.out _ hkw;go_simp;go_at_call 15;refine (HIT.out _ hkw).mono ?_;rintro e w5 ⟨u,rfl,hk5,_,_⟩;exact StepPost.of _ rfl ⟨u,rfl⟩ hk5)
     refine Steps.call (fun _ v=>∃ u,v=.tuple #[u,.bool true]) rfl (fun _ _ _ _ h=>h) (fun f w' hR hV=>⟨?_,?_⟩) ?_
     ·(rfl)
     ·(obtain ⟨h7,_⟩:=hV;replace h7:∃ u,(f 7)=.tuple #[u,.bool true]:=h7;have hkw:=(Keeps.refl wo).drew.trans hR;obtain ⟨c0,c1,c2,c3⟩:=HCC.out _ hkw;go_simp;obtain ⟨u,e7⟩:=h7;go_simp;exact StepPost.of _ rfl ⟨u,rfl⟩ (Keeps.refl _))
     refine Steps.call (fun _ _=>True) rfl (fun _ _ _ _ h=>h) (fun f w' hR hV=>⟨?_,?_⟩) ?_
     ·(rfl)
     ·(obtain ⟨h8,_⟩:=hV;replace h8:∃ u,(f 8)=.tuple #[u,.bool true]:=h8;have hkw:=(Keeps.refl wo).drew.trans hR;obtain ⟨c0,c1,c2,c3⟩:=HCC.out _ hkw;go_simp;obtain ⟨u,e8⟩:=h8;go_simp;exact StepPost.of _ rfl trivial (Keeps.refl _))
     refine Steps.pure (v:=.bool true) Keeps.refl rfl (fun f w' hR hV=>⟨?_,?_⟩) ?_
     ·(rfl)
     ·(obtain ⟨h8,_⟩:=hV;replace h8:∃ u,(f 8)=.tuple #[u,.bool true]:=h8;have hkw:=(Keeps.refl wo).drew.trans hR;obtain ⟨c0,c1,c2,c3⟩:=HCC.out _ hkw;obtain ⟨u,e8⟩:=h8;go_simp;all_goals (try with_reducible rfl))
     refine Steps.call (fun _ _=>True) rfl (fun _ _ _ _ h=>h) (fun f w' hR hV=>⟨?_,?_⟩) ?_
     ·(rfl)
     ·(obtain ⟨h9,_⟩:=hV;replace h9:True:=h9;have hkw:=(Keeps.refl wo).drew.trans hR;obtain ⟨c0,c1,c2,c3⟩:=HCC.out _ hkw;go_simp;go_simp;exact StepPost.of _ rfl trivial (Keeps.refl _))
     (refine Steps.pure (v:=?_) Keeps.refl rfl (fun f w' hR hV=>⟨?_,?_⟩) ?_;rotate_left;(focus rfl);(focus ((repeat (obtain ⟨hq,hV⟩:=hV;(try replace hq:_=_:=hq)));have hkw:=(Keeps.refl wo).drew.trans hR;obtain ⟨c0,c1,c2,c3⟩:=HCC.out _ hkw;go_simp;all_goals (try with_reducible rfl))))
     all_goals (refine Steps.done [12] (by kernel_rfl) rfl (fun f wz hR hV=>?_);obtain ⟨h12,_⟩:=hV;replace h12:f 12=_:=h12;simp only [h12])
     have HKZ:=Lib.hid ((Keeps.refl wo).drew.trans hR)
     obtain ⟨c0,_,_,_⟩:=HCC.out _ HKZ.out
     have hzc:=World.block_lt_of_cell? _ _ c0
     clear hR h12
     go_wp2_with (at_builtin;(refine wpList_appx elemInt rfl (.tmp 41) (.tmp 47) rfl w2 _ n _ rfl w2.heap.size (own_keepsH HOW.out HKZ.out) (HW.out.1.trans HKZ.out) (HW.out.1.trans HKZ.out).size [.int .i64 m.x.id] _ 1 rfl (by simp) rfl (fun u hu=>by cases List.mem_singleton.1 hu;rfl) (by omega) (by omega) ?_);intro v' w9 hown' hb' hsz';have HX:Hid (Keeps w2 w9∧w9.ownsRow w2.heap.size 3 1 v' (elisR g es hs items (dayB g p) (L.take (i+1))).length (((elisR g es hs items (dayB g p) (L.take (i+1))).map Eli.id).map (.int .i64))):=Lib.hid ⟨hb',by rw [HTK.out,HTI.out.1,HTI.out.2];exact hown'⟩;clear hown' hb' hsz')
     go_roundw
     case rel=>exact ⟨i+1,by omega,by go_num,HX⟩
     case measure=>simp [intOf];omega
   ·obtain rfl:i=L.length:=by omega
    have hov:=HW.out.2
    rw [List.take_length] at hov
    have HIL:Hid (IntL wo u9 ((elisR g es hs items (dayB g p) L).map Eli.id)):=Lib.hid (IntL.own (base:=w2.heap.size) (e:=3) (by rw [List.length_map];exact hov))
    clear hov
    go_wp2_with fail
    refine bodyPost_ret (results_tmp2 rfl _ _ _) rfl ?_
    rw [HPF.out]
    exact ⟨_,rfl,HIL.out,HW1.out.trans (K2.out.trans HW.out.1)⟩
 ·have HPF:Hid (idsF g es hs ms items p=([],er)):=Lib.hid (by unfold idsF;rw [if_neg (by rw [her];exact h0),her])
  have e0:(er != 0)=true:=by simpa using h0
  clear h0 her H HI SM hA hM hrg hk0 hb24 g24
  go_enter Tryz.func19,Tryz.ntmps19
  go_upto_region 1 with fail
  try rw [hW1]
  try rw [hz1]
  clear hW1 hz1
  go_wp2_with (first | (refine wpList_rowG 36 _ rfl rfl w.heap.size bv _ rfl (HRG.out _ (Keeps.refl _)) Tryz.underlying36 rfl (by rw [HBL.out];exact booksSize) ?_) | (go_at_call 28;(refine (HCK.out).mono ?_);rintro e1 w1 ⟨rfl,hk1⟩;have K1:Hid (Keeps W1 w1):=Lib.hid hk1;have g24':=hk1.cell G24.out;have hzg:=World.block_lt_of_cell? _ _ g24';clear hk1))
  refine bodyPost_ret (results_tmp2 rfl _ _ _) rfl ?_
  rw [HPF.out]
  exact ⟨_,rfl,⟨none,0,0,0,rfl,Sl.nil _ _⟩,HW1.out.trans K1.out⟩
end Go.Proofs.YtoaidbhiciaeaaaGreat

end
section
namespace Go.Proofs.YtoaidbhiciaeaaaGreat
open Go.RowKit
theorem remF_none {g:Grp} {es:List JV} {hs:List Hol} {ms:List MV} {items:List Itm} {p i:Int} (h:errI g es hs ms p=0) (hn:∀ m∈ms,eliB g es hs items (dayB g p) m.x=true→m.x.id≠i):remF g es hs ms items p i=(0,0,8):=by
 have hf:(elisS g es hs ms items p).find? (fun x=>x.id == i)=none:=List.find?_eq_none.2 fun x hx=>by
  obtain ⟨m,hm,hb,rfl⟩:=elisS_mem.1 hx
  have:=hn m hm hb
  show ¬ (m.x.id == i)=true
  simpa using this
 unfold remF
 rw [if_pos h,hf]
set_option maxRecDepth 100000 in
theorem rremR_any (bv:List Value) (g:Grp) (es:List JV) (hs:List Hol) (ms:List MV) (items:List Itm) (p id:Int) (ao:Option Addr) (cap b o:Nat) (w:World) (H:BkG w bv g es hs ms) (HI:Recs w 7 Itm.cells ao items cap b o) (SM:SmallB g es hs ms items) (hA:∀ x∈items,x.OkA) :
  Calls Tryz.prog 21 #[.agg bv.toArray,.slice ao items.length cap,.int .i64 id,.int .i64 p] w fun e w'=>e=.returned (.tuple #[.int .i64 (remF g es hs ms items p id).1,.int .i64 (remF g es hs ms items p id).2.1,.int .i64 (remF g es hs ms items p id).2.2])∧Keeps w w':=by
 obtain ⟨er,her⟩:∃ q,errI g es hs ms p=q:=⟨_,rfl⟩
 have hk0:Keeps w (w.alloc (.cells bv.toArray 36)):=(Keeps.refl w).alloc _
 have hrg:=box_range w bv 36
 have hz1:w.heap.size+1=(w.alloc (.cells bv.toArray 36)).heap.size:=by simp
 obtain ⟨W1,hW1⟩:∃ W1,w.alloc (.cells bv.toArray 36)=W1:=⟨_,rfl⟩
 rw [hW1] at hrg hk0 hz1
 have HCK:Hid (Calls Tryz.prog 28 #[.agg bv.toArray,.int .i64 p] W1 fun e w'=>e=.returned (.int .i64 er)∧Keeps W1 w'):=Lib.hid (by
  have:=rcheck_any bv g es hs ms items p W1 (H.keeps hk0) SM
  rw [her] at this
  exact this)
 obtain ⟨aoM,capM,bM,oM,hb24,hM⟩:=H.bks.mts
 have HBL:=Lib.hid H.bks.len
 have HW1:=Lib.hid hk0
 have HRG:Hid (∀ W,Keeps W1 W→W.rangeAt w.heap.size 0 bv):=Lib.hid (fun W hk=>range_keeps hrg hk)
 have g24:=hrg 24 _ hb24
 simp only [Nat.zero_add] at g24
 have G24:=Lib.hid g24
 by_cases h0:er=0
 ·subst h0
  have HEZ:=Lib.hid her
  have hcapM:=Sl.cap hM.row
  have hleM:=Sl.le hM.row
  have HB:=Lib.hid H
  have HSM:=Lib.hid SM
  have HAI:=Lib.hid hA
  have HII:=Lib.hid HI
  have HMM:=Lib.hid hM
  clear H HI SM hA hM hrg hk0 her hb24
  go_enter Tryz.func21,Tryz.ntmps21
  go_upto_region 1 with fail
  try rw [hW1]
  try rw [hz1]
  clear hW1 hz1
  go_wp2_with (first | (refine wpList_rowG 36 _ rfl rfl w.heap.size bv _ rfl (HRG.out _ (Keeps.refl _)) Tryz.underlying36 rfl (by rw [HBL.out];exact booksSize) ?_) | (go_at_call 28;(refine (HCK.out).mono ?_);rintro e1 w1 ⟨rfl,hk1⟩;have K1:Hid (Keeps W1 w1):=Lib.hid hk1;have g24':=hk1.cell G24.out;have hzg:=World.block_lt_of_cell? _ _ g24';clear hk1))
  clear g24 g24' hzg
  go_loopw [12] (fun vi wr=>∃ k:Nat,k≤ms.length∧vi=.int .i64 k∧Hid (∀ j (hj:j < ms.length),j < k→eliB g es hs items (dayB g p) ms[j].x=true→ms[j].x.id≠id)∧Hid (Keeps W1 wr)) (fun vi _=>ms.length - (intOf vi).toNat)
  case atStart=>exact ⟨0,Nat.zero_le _,rfl,Lib.hid (fun j _ h=>absurd h (Nat.not_lt_zero _)),K1⟩
  case round=>
   obtain ⟨k,hk,rfl,HN,HW⟩:=hrel
   obtain ⟨wo,rfl⟩:∃ z:World,z=wr:=⟨_,rfl⟩
   have c24:=HW.out.cell G24.out
   have hzc:=World.block_lt_of_cell? _ _ c24
   by_cases hlt:k < ms.length
   ·have hr:=HMM.out.row.keeps (HW1.out.trans HW.out)
    have hix:=Sl.at hr Tryz.underlying33 Tryz.sizeOf48 k hlt
    obtain ⟨m,hmk⟩:∃ m,ms[k]=m:=⟨_,rfl⟩
    have c0:=hr.cell MV.len k hlt 0 (.int .i64 m.x.id) (by rw [hmk];rfl)
    have c1:=hr.cell MV.len k hlt 1 (.slice m.al m.x.left.length m.cl) (by rw [hmk];rfl)
    have c2:=hr.cell MV.len k hlt 2 (.slice m.ar m.x.right.length m.cr) (by rw [hmk];rfl)
    have c3:=hr.cell MV.len k hlt 3 (.int .i64 m.x.state) (by rw [hmk];rfl)
    simp only [Nat.add_zero] at c0
    have hmem:m∈ms:=by rw [← hmk];exact List.getElem_mem hlt
    have HCC:Hid (∀ W,Keeps wo W→W.cell? ⟨bM,oM+k * 4,none⟩=some (.int .i64 m.x.id)∧W.cell? ⟨bM,oM+k * 4+1,none⟩=some (.slice m.al m.x.left.length m.cl)∧W.cell? ⟨bM,oM+k * 4+2,none⟩=some (.slice m.ar m.x.right.length m.cr)∧W.cell? ⟨bM,oM+k * 4+3,none⟩=some (.int .i64 m.x.state)∧W.cell? ⟨w.heap.size,24,none⟩=some (.slice aoM ms.length capM)):=Lib.hid (fun W hW=>⟨hW.cell c0,hW.cell c1,hW.cell c2,hW.cell c3,hW.cell c24⟩)
    have hit:∀ W,Keeps wo W→Calls Tryz.prog 15 #[.agg bv.toArray,.slice ao items.length cap,.agg #[.int .i64 m.x.id,.slice m.al m.x.left.length m.cl,.slice m.ar m.x.right.length m.cr,.int .i64 m.x.state],.int .i64 p] W (IO W (eliB g es hs items (dayB g p) m.x) (eliM es items m.x).own):=fun W hk=>
     ritems_any bv g es hs ms items p m.x ao cap b o m.al m.cl m.bl m.ol m.ar m.cr m.br m.or_ W (HB.out.keeps (HW1.out.trans (HW.out.trans hk))) HSM.out (HII.out.keeps (HW1.out.trans (HW.out.trans hk))) ((HMM.out.left m hmem).keeps (HW1.out.trans (HW.out.trans hk))) ((HMM.out.right m hmem).keeps (HW1.out.trans (HW.out.trans hk))) (HSM.out.sides m hmem).1 (HSM.out.sides m hmem).2
    have HMK:=Lib.hid hmk
    have HNX:(eliB g es hs items (dayB g p) m.x=true→m.x.id≠id)→Hid (∀ j (hj:j < ms.length),j < k+1→eliB g es hs items (dayB g p) ms[j].x=true→ms[j].x.id≠id):=fun h=>Lib.hid (fun j hj hjk=>by
     by_cases e:j < k
     ·exact HN.out j hj e
     ·obtain rfl:j=k:=by omega
      rw [HMK.out];exact h)
    clear hr hmk c0 c1 c2 c3
    cases hq:eliB g es hs items (dayB g p) m.x with
    | false=>
     have HN2:=HNX (fun h=>by rw [hq] at h;cases h)
     obtain ⟨own,hown⟩:∃ own,(eliM es items m.x).own=own:=⟨_,rfl⟩
     rw [hq,hown] at hit
     have HIT:=Lib.hid hit
     clear hit hq hown hmem HNX
     go_upto_region 7 with fail
     clear c24 hzc
     refine wp_region_steps (A:=?_) Keeps [some 31,some 32,some 33,some 34,some 35,some 36,some 37,some 38,some 39,some 30,some 40,some 41,some 13,some 14] [[],[],[],[2],[],[3,4],[5],[],[0,1,6,7],[8],[9],[9],[10],[11]] 14 (by kernel_rfl) (by kernel_rfl) (by kernel_rfl) (by kernel_rfl) (by kernel_rfl) (by kernel_rfl) Keeps.refl (fun _ _ _=>Keeps.trans) ?_ ?_
     rotate_left
     ·intro f;simp only [putL,Act.put,List.setIfInBounds_toArray,List.set_cons_zero,List.set_cons_succ,Nat.zero_add,Nat.reduceAdd];exact rfl
     refine Steps.pure (v:=.agg bv.toArray) Keeps.refl rfl (fun f w' hR hV=>⟨?_,?_⟩) ?_
     ·(rfl)
     ·(clear hV;have hkw:=(Keeps.refl wo).drew.trans hR;obtain ⟨c0,c1,c2,c3,c24⟩:=HCC.out _ hkw;exact exec_load_mid 36 (.tmp 4) rfl w.heap.size rfl bv _ (HRG.out _ (HW.out.trans hkw)) Tryz.underlying36 rfl (by rw [HBL.out];exact booksSize))
     iterate 7 (refine Steps.pure (v:=?_) Keeps.refl rfl (fun f w' hR hV=>⟨?_,?_⟩) ?_;rotate_left;(focus rfl);(focus ((repeat (obtain ⟨hq,hV⟩:=hV;(try replace hq:_=_:=hq)));have hkw:=(Keeps.refl wo).drew.trans hR;obtain ⟨c0,c1,c2,c3,c24⟩:=HCC.out _ hkw;go_simp;all_goals (try with_reducible rfl))))
     refine Steps.call (fun _ v=>∃ u,v=.tuple #[u,.bool false]) rfl (fun _ _ _ _ h=>h) (fun f w' hR hV=>⟨?_,?_⟩) ?_
     ·(rfl)
     ·(obtain ⟨h0,h1,h6,h7,_⟩:=hV;replace h0:f 0=_:=h0;replace h1:f 1=_:=h1;replace h6:f 6=_:=h6;replace h7:f 7=_:=h7;have hkw:=(Keeps.refl wo).drew.trans hR;obtain ⟨c0,c1,c2,c3,c24⟩:=HCC.out _ hkw;go_simp;go_at_call 15;refine (HIT.out _ hkw).mono ?_;rintro e w5 ⟨u,rfl,hk5,_,_⟩;exact StepPost.of _ rfl ⟨u,rfl⟩ hk5)
     refine Steps.call (fun _ v=>∃ u,v=.tuple #[u,.bool false]) rfl (fun _ _ _ _ h=>h) (fun f w' hR hV=>⟨?_,?_⟩) ?_
     ·(rfl)
     ·(obtain ⟨h8,_⟩:=hV;replace h8:∃ u,(f 8)=.tuple #[u,.bool false]:=h8;have hkw:=(Keeps.refl wo).drew.trans hR;obtain ⟨c0,c1,c2,c3,c24⟩:=HCC.out _ hkw;go_simp;obtain ⟨u,e8⟩:=h8;go_simp;exact StepPost.of _ rfl ⟨u,rfl⟩ (Keeps.refl _))
     refine Steps.call (fun _ _=>True) rfl (fun _ _ _ _ h=>h) (fun f w' hR hV=>⟨?_,?_⟩) ?_
     ·(rfl)
     ·(obtain ⟨h9,_⟩:=hV;replace h9:∃ u,(f 9)=.tuple #[u,.bool false]:=h9;have hkw:=(Keeps.refl wo).drew.trans hR;obtain ⟨c0,c1,c2,c3,c24⟩:=HCC.out _ hkw;go_simp;obtain ⟨u,e9⟩:=h9;go_simp;exact StepPost.of _ rfl trivial (Keeps.refl _))
     refine Steps.pure (v:=.bool false) Keeps.refl rfl (fun f w' hR hV=>⟨?_,?_⟩) ?_
     ·(rfl)
     ·(obtain ⟨h9,_⟩:=hV;replace h9:∃ u,(f 9)=.tuple #[u,.bool false]:=h9;have hkw:=(Keeps.refl wo).drew.trans hR;obtain ⟨c0,c1,c2,c3,c24⟩:=HCC.out _ hkw;obtain ⟨u,e9⟩:=h9;go_simp;all_goals (try with_reducible rfl))
     refine Steps.call (fun _ _=>True) rfl (fun _ _ _ _ h=>h) (fun f w' hR hV=>⟨?_,?_⟩) ?_
     ·(rfl)
     ·(obtain ⟨h10,_⟩:=hV;replace h10:True:=h10;have hkw:=(Keeps.refl wo).drew.trans hR;obtain ⟨c0,c1,c2,c3,c24⟩:=HCC.out _ hkw;go_simp;go_simp;exact StepPost.of _ rfl trivial (Keeps.refl _))
     (refine Steps.pure (v:=?_) Keeps.refl rfl (fun f w' hR hV=>⟨?_,?_⟩) ?_;rotate_left;(focus rfl);(focus ((repeat (obtain ⟨hq,hV⟩:=hV;(try replace hq:_=_:=hq)));have hkw:=(Keeps.refl wo).drew.trans hR;obtain ⟨c0,c1,c2,c3,c24⟩:=HCC.out _ hkw;go_simp;all_goals (try with_reducible rfl))))
     all_goals (refine Steps.done [13] (by kernel_rfl) rfl (fun f wz hR hV=>?_);obtain ⟨h13,_⟩:=hV;replace h13:f 13=_:=h13;simp only [h13])
     have HKZ:=Lib.hid ((Keeps.refl wo).drew.trans hR)
     clear hR h13
     go_wp2_with fail
     go_roundw
     case rel=>exact ⟨k+1,by omega,by go_num,HN2,Lib.hid (HW.out.trans HKZ.out)⟩
     case measure=>simp [intOf];omega
    | true=>
     have hem:eliM es items m.x∈elisS g es hs ms items p:=elisS_mem.2 ⟨m,hmem,hq,rfl⟩
     rw [hq] at hit
     have hol:=own_len HSM.out.sides hem
     have hoA:∀ x∈(eliM es items m.x).own,x.OkA:=fun x hx=>HAI.out x (own_items hem x hx)
     have hre:=rem_eli HEZ.out hem
     have hre2:remF g es hs ms items p m.x.id=(totS (eliM es items m.x).own,remA g (dayA g p) (eliM es items m.x).own,0):=hre
     obtain ⟨own,hown⟩:∃ own,(eliM es items m.x).own=own:=⟨_,rfl⟩
     rw [hown] at hit hol hoA hre2
     have HIT:=Lib.hid hit
     have HRE:=Lib.hid hre2
     have HRM0:Hid (∀ W a c bb,Keeps wo W→Recs W 7 Itm.cells a own c bb 0→Calls Tryz.prog 30 #[.agg bv.toArray,.slice a own.length c,.int .i64 p] W fun e w'=>e=.returned (.tuple #[.int .i64 (totS own),.int .i64 (remA g (dayA g p) own)])∧Keeps W w'):=Lib.hid (fun W a c bb hk hr=>rrem_any bv g es hs ms p own a c bb 0 W (HB.out.keeps (HW1.out.trans (HW.out.trans hk))) hr hol hoA)
     clear hit hown hmem hem hoA hre hre2
     by_cases hid2:m.x.id=id
     ·have e1:(m.x.id == id)=true:=by simpa using hid2
      have HBD:Hid (remF g es hs ms items p id=(totS own,remA g (dayA g p) own,0)):=Lib.hid (by rw [← hid2];exact HRE.out)
      clear hid2 hq HNX
      go_upto_region 7 with fail
      clear c24 hzc
      refine wp_region_steps (A:=?_) Keeps [some 31,some 32,some 33,some 34,some 35,some 36,some 37,some 38,some 39,some 30,some 40,some 41,some 13,some 14] [[],[],[],[2],[],[3,4],[5],[],[0,1,6,7],[8],[9],[9],[10],[11]] 14 (by kernel_rfl) (by kernel_rfl) (by kernel_rfl) (by kernel_rfl) (by kernel_rfl) (by kernel_rfl) Keeps.refl (fun _ _ _=>Keeps.trans) ?_ ?_
      rotate_left
      ·intro f;simp only [putL,Act.put,List.setIfInBounds_toArray,List.set_cons_zero,List.set_cons_succ,Nat.zero_add,Nat.reduceAdd];exact rfl
      refine Steps.pure (v:=.agg bv.toArray) Keeps.refl rfl (fun f w' hR hV=>⟨?_,?_⟩) ?_
      ·(rfl)
      ·(clear hV;have hkw:=(Keeps.refl wo).drew.trans hR;obtain ⟨c0,c1,c2,c3,c24⟩:=HCC.out _ hkw;exact exec_load_mid 36 (.tmp 4) rfl w.heap.size rfl bv _ (HRG.out _ (HW.out.trans hkw)) Tryz.underlying36 rfl (by rw [HBL.out];exact booksSize))
      iterate 7 (refine Steps.pure (v:=?_) Keeps.refl rfl (fun f w' hR hV=>⟨?_,?_⟩) ?_;rotate_left;(focus rfl);(focus ((repeat (obtain ⟨hq,hV⟩:=hV;(try replace hq:_=_:=hq)));have hkw:=(Keeps.refl wo).drew.trans hR;obtain ⟨c0,c1,c2,c3,c24⟩:=HCC.out _ hkw;go_simp;all_goals (try with_reducible rfl))))
      refine Steps.call (fun W v=>ITp W wo.heap.size own v) rfl (fun _ _ _ k h=>h.keeps k) (fun f w' hR hV=>⟨?_,?_⟩) ?_
      ·(rfl)
      ·(obtain ⟨h0,h1,h6,h7,_⟩:=hV;replace h0:f 0=_:=h0;replace h1:f 1=_:=h1;replace h6:f 6=_:=h6;replace h7:f 7=_:=h7;have hkw:=(Keeps.refl wo).drew.trans hR;obtain ⟨c0,c1,c2,c3,c24⟩:=HCC.out _ hkw;go_simp;go_at_call 15;refine (HIT.out _ hkw).mono ?_;rintro e w5 ⟨u,rfl,hk5,ho5,_⟩;exact StepPost.of _ rfl ⟨u,rfl,ISl.of (ho5 rfl) hkw.size⟩ hk5)
      refine Steps.call (fun W v=>ITp W wo.heap.size own v) rfl (fun _ _ _ k h=>h.keeps k) (fun f w' hR hV=>⟨?_,?_⟩) ?_
      ·(rfl)
      ·(obtain ⟨h8,_⟩:=hV;replace h8:ITp w' wo.heap.size own (f 8):=h8;have hkw:=(Keeps.refl wo).drew.trans hR;obtain ⟨c0,c1,c2,c3,c24⟩:=HCC.out _ hkw;go_simp;obtain ⟨u,e8,hu⟩:=h8;go_simp;exact StepPost.of _ rfl ⟨u,rfl,hu⟩ (Keeps.refl _))
      refine Steps.call (fun W v=>ISl W wo.heap.size own v) rfl (fun _ _ _ k h=>h.keeps k) (fun f w' hR hV=>⟨?_,?_⟩) ?_
      ·(rfl)
      ·(obtain ⟨h9,_⟩:=hV;replace h9:ITp w' wo.heap.size own (f 9):=h9;have hkw:=(Keeps.refl wo).drew.trans hR;obtain ⟨c0,c1,c2,c3,c24⟩:=HCC.out _ hkw;go_simp;obtain ⟨u,e9,hu⟩:=h9;go_simp;exact StepPost.of _ rfl hu (Keeps.refl _))
      refine Steps.pure (v:=.bool true) Keeps.refl rfl (fun f w' hR hV=>⟨?_,?_⟩) ?_
      ·(rfl)
      ·(obtain ⟨h9,_⟩:=hV;replace h9:ITp w' wo.heap.size own (f 9):=h9;have hkw:=(Keeps.refl wo).drew.trans hR;obtain ⟨c0,c1,c2,c3,c24⟩:=HCC.out _ hkw;obtain ⟨u,e9,_⟩:=h9;go_simp;all_goals (try with_reducible rfl))
      refine Steps.call (fun W v=>ISl W wo.heap.size own v) rfl (fun _ _ _ k h=>h.keeps k) (fun f w' hR hV=>⟨?_,?_⟩) ?_
      ·(rfl)
      ·(obtain ⟨h10,_⟩:=hV;replace h10:ISl w' wo.heap.size own (f 10):=h10;have hkw:=(Keeps.refl wo).drew.trans hR;obtain ⟨c0,c1,c2,c3,c24⟩:=HCC.out _ hkw;go_simp;go_simp;exact StepPost.of _ rfl h10 (Keeps.refl _))
      (refine Steps.pure (v:=?_) Keeps.refl rfl (fun f w' hR hV=>⟨?_,?_⟩) ?_;rotate_left;(focus rfl);(focus ((repeat (obtain ⟨hq,hV⟩:=hV;(try replace hq:_=_:=hq)));have hkw:=(Keeps.refl wo).drew.trans hR;obtain ⟨c0,c1,c2,c3,c24⟩:=HCC.out _ hkw;go_simp;all_goals (try with_reducible rfl))))
      all_goals (refine Steps.done [12,13] (by kernel_rfl) rfl (fun f wz hR hV=>?_);obtain ⟨h12,h13,_⟩:=hV;replace h12:ISl wz wo.heap.size own (f 12):=h12;replace h13:f 13=_:=h13;simp only [h13])
      obtain ⟨a9,c9,e12,ho9⟩:=h12
      simp only [e12]
      have HKZ:=Lib.hid ((Keeps.refl wo).drew.trans hR)
      obtain ⟨a9',c9',b9,he9,hs9⟩:=Sl.own (e12 ▸ ho9)
      cases he9
      have HS9:Hid (Recs wz 7 Itm.cells a9 own c9 b9 0):=Lib.hid hs9
      have HRM:Hid (∀ W,Keeps wz W→Calls Tryz.prog 30 #[.agg bv.toArray,.slice a9 own.length c9,.int .i64 p] W fun e w'=>e=.returned (.tuple #[.int .i64 (totS own),.int .i64 (remA g (dayA g p) own)])∧Keeps W w'):=Lib.hid (fun W hW=>HRM0.out W a9 c9 b9 (HKZ.out.trans hW) (HS9.out.keeps hW))
      obtain ⟨c0,_,_,_,c24⟩:=HCC.out _ HKZ.out
      have hzc:=World.block_lt_of_cell? _ _ c24
      clear hR h13 e12 ho9 hs9 HRM0
      go_wp2_with (first | (refine wpList_rowG 36 _ rfl rfl w.heap.size bv _ rfl (HRG.out _ (HW.out.trans HKZ.out)) Tryz.underlying36 rfl (by rw [HBL.out];exact booksSize) ?_) | (go_at_call 30;(refine (HRM.out _ (Keeps.refl wz)).mono ?_);rintro e3 w3 ⟨rfl,hk3⟩;have K3:Hid (Keeps wz w3):=Lib.hid hk3;clear hk3))
      refine bodyPost_ret (results_tmp3 rfl _ _ _) rfl ?_
      rw [HBD.out]
      exact ⟨rfl,HW1.out.trans (HW.out.trans (HKZ.out.trans K3.out))⟩
     ·have e1:(m.x.id == id)=false:=by simpa using hid2
      have HN2:=HNX (fun _=>hid2)
      clear hid2 hq HNX HRM0
      go_upto_region 7 with fail
      clear c24 hzc
      refine wp_region_steps (A:=?_) Keeps [some 31,some 32,some 33,some 34,some 35,some 36,some 37,some 38,some 39,some 30,some 40,some 41,some 13,some 14] [[],[],[],[2],[],[3,4],[5],[],[0,1,6,7],[8],[9],[9],[10],[11]] 14 (by kernel_rfl) (by kernel_rfl) (by kernel_rfl) (by kernel_rfl) (by kernel_rfl) (by kernel_rfl) Keeps.refl (fun _ _ _=>Keeps.trans) ?_ ?_
      rotate_left
      ·intro f;simp only [putL,Act.put,List.setIfInBounds_toArray,List.set_cons_zero,List.set_cons_succ,Nat.zero_add,Nat.reduceAdd];exact rfl
      refine Steps.pure (v:=.agg bv.toArray) Keeps.refl rfl (fun f w' hR hV=>⟨?_,?_⟩) ?_
      ·(rfl)
      ·(clear hV;have hkw:=(Keeps.refl wo).drew.trans hR;obtain ⟨c0,c1,c2,c3,c24⟩:=HCC.out _ hkw;exact exec_load_mid 36 (.tmp 4) rfl w.heap.size rfl bv _ (HRG.out _ (HW.out.trans hkw)) Tryz.underlying36 rfl (by rw [HBL.out];exact booksSize))
      iterate 7 (refine Steps.pure (v:=?_) Keeps.refl rfl (fun f w' hR hV=>⟨?_,?_⟩) ?_;rotate_left;(focus rfl);(focus ((repeat (obtain ⟨hq,hV⟩:=hV;(try replace hq:_=_:=hq)));have hkw:=(Keeps.refl wo).drew.trans hR;obtain ⟨c0,c1,c2,c3,c24⟩:=HCC.out _ hkw;go_simp;all_goals (try with_reducible rfl))))
      refine Steps.call (fun W v=>ITp W wo.heap.size own v) rfl (fun _ _ _ k h=>h.keeps k) (fun f w' hR hV=>⟨?_,?_⟩) ?_
      ·(rfl)
      ·(obtain ⟨h0,h1,h6,h7,_⟩:=hV;replace h0:f 0=_:=h0;replace h1:f 1=_:=h1;replace h6:f 6=_:=h6;replace h7:f 7=_:=h7;have hkw:=(Keeps.refl wo).drew.trans hR;obtain ⟨c0,c1,c2,c3,c24⟩:=HCC.out _ hkw;go_simp;go_at_call 15;refine (HIT.out _ hkw).mono ?_;rintro e w5 ⟨u,rfl,hk5,ho5,_⟩;exact StepPost.of _ rfl ⟨u,rfl,ISl.of (ho5 rfl) hkw.size⟩ hk5)
      refine Steps.call (fun W v=>ITp W wo.heap.size own v) rfl (fun _ _ _ k h=>h.keeps k) (fun f w' hR hV=>⟨?_,?_⟩) ?_
      ·(rfl)
      ·(obtain ⟨h8,_⟩:=hV;replace h8:ITp w' wo.heap.size own (f 8):=h8;have hkw:=(Keeps.refl wo).drew.trans hR;obtain ⟨c0,c1,c2,c3,c24⟩:=HCC.out _ hkw;go_simp;obtain ⟨u,e8,hu⟩:=h8;go_simp;exact StepPost.of _ rfl ⟨u,rfl,hu⟩ (Keeps.refl _))
      refine Steps.call (fun W v=>ISl W wo.heap.size own v) rfl (fun _ _ _ k h=>h.keeps k) (fun f w' hR hV=>⟨?_,?_⟩) ?_
      ·(rfl)
      ·(obtain ⟨h9,_⟩:=hV;replace h9:ITp w' wo.heap.size own (f 9):=h9;have hkw:=(Keeps.refl wo).drew.trans hR;obtain ⟨c0,c1,c2,c3,c24⟩:=HCC.out _ hkw;go_simp;obtain ⟨u,e9,hu⟩:=h9;go_simp;exact StepPost.of _ rfl hu (Keeps.refl _))
      refine Steps.pure (v:=.bool true) Keeps.refl rfl (fun f w' hR hV=>⟨?_,?_⟩) ?_
      ·(rfl)
      ·(obtain ⟨h9,_⟩:=hV;replace h9:ITp w' wo.heap.size own (f 9):=h9;have hkw:=(Keeps.refl wo).drew.trans hR;obtain ⟨c0,c1,c2,c3,c24⟩:=HCC.out _ hkw;obtain ⟨u,e9,_⟩:=h9;go_simp;all_goals (try with_reducible rfl))
      refine Steps.call (fun W v=>ISl W wo.heap.size own v) rfl (fun _ _ _ k h=>h.keeps k) (fun f w' hR hV=>⟨?_,?_⟩) ?_
      ·(rfl)
      ·(obtain ⟨h10,_⟩:=hV;replace h10:ISl w' wo.heap.size own (f 10):=h10;have hkw:=(Keeps.refl wo).drew.trans hR;obtain ⟨c0,c1,c2,c3,c24⟩:=HCC.out _ hkw;go_simp;go_simp;exact StepPost.of _ rfl h10 (Keeps.refl _))
      (refine Steps.pure (v:=?_) Keeps.refl rfl (fun f w' hR hV=>⟨?_,?_⟩) ?_;rotate_left;(focus rfl);(focus ((repeat (obtain ⟨hq,hV⟩:=hV;(try replace hq:_=_:=hq)));have hkw:=(Keeps.refl wo).drew.trans hR;obtain ⟨c0,c1,c2,c3,c24⟩:=HCC.out _ hkw;go_simp;all_goals (try with_reducible rfl))))
      all_goals (refine Steps.done [12,13] (by kernel_rfl) rfl (fun f wz hR hV=>?_);obtain ⟨h12,h13,_⟩:=hV;replace h12:ISl wz wo.heap.size own (f 12):=h12;replace h13:f 13=_:=h13;simp only [h13])
      have HKZ:=Lib.hid ((Keeps.refl wo).drew.trans hR)
      obtain ⟨c0,_,_,_,c24⟩:=HCC.out _ HKZ.out
      have hzc:=World.block_lt_of_cell? _ _ c24
      clear hR h12 h13
      go_wp2_with fail
      go_roundw
      case rel=>exact ⟨k+1,by omega,by go_num,HN2,Lib.hid (HW.out.trans HKZ.out)⟩
      case measure=>simp [intOf];omega
   ·have HBD:=Lib.hid (remF_none (g:=g) (es:=es) (hs:=hs) (ms:=ms) (items:=items) (p:=p) (i:=id) HEZ.out (fun m hm hb=>by
     obtain ⟨j,hj,rfl⟩:=List.getElem_of_mem hm
     exact HN.out j hj (by omega) hb))
    go_wp2_with fail
    refine bodyPost_ret (results_tmp3 rfl _ _ _) rfl ?_
    rw [HBD.out]
    exact ⟨rfl,HW1.out.trans HW.out⟩
 ·have HPF:Hid (remF g es hs ms items p id=(0,0,er)):=Lib.hid (by unfold remF;rw [if_neg (by rw [her];exact h0),her])
  have e0:(er != 0)=true:=by simpa using h0
  clear h0 her H HI SM hA hM hrg hk0 hb24 g24
  go_enter Tryz.func21,Tryz.ntmps21
  go_upto_region 1 with fail
  try rw [hW1]
  try rw [hz1]
  clear hW1 hz1
  go_wp2_with (first | (refine wpList_rowG 36 _ rfl rfl w.heap.size bv _ rfl (HRG.out _ (Keeps.refl _)) Tryz.underlying36 rfl (by rw [HBL.out];exact booksSize) ?_) | (go_at_call 28;(refine (HCK.out).mono ?_);rintro e1 w1 ⟨rfl,hk1⟩;have K1:Hid (Keeps W1 w1):=Lib.hid hk1;have g24':=hk1.cell G24.out;have hzg:=World.block_lt_of_cell? _ _ g24';clear hk1))
  refine bodyPost_ret (results_tmp3 rfl _ _ _) rfl ?_
  rw [HPF.out]
  exact ⟨rfl,HW1.out.trans K1.out⟩
end Go.Proofs.YtoaidbhiciaeaaaGreat

end
section
namespace Go.Proofs.YtoaidbhiciaeaaaGreat
open Go.RowKit
set_option maxRecDepth 100000 in
theorem lawEl_any (bv:List Value) (g:Grp) (es:List JV) (hs:List Hol) (ms:List MV) (items:List Itm) (p:Int) (ao:Option Addr) (cap b o:Nat) (w:World) (H:BkG w bv g es hs ms) (ho:g.OkG) (hh:∀ x∈hs,x.Ok) (hid:∀ m∈ms,I64 m.x.id) (HI:Recs w 7 Itm.cells ao items cap b o) (hi:∀ x∈items,x.OkI) (hsz:∀ m∈ms,m.x.left.length+m.x.right.length≤9223372036854775807) :
  Calls Tryz.prog 8 #[.agg bv.toArray,.slice ao items.length cap,.int .i64 p] w fun e w'=>e=.returned (.bool true)∧Keeps w w':=by
 obtain ⟨q,hq⟩:∃ q,fewL g es hs ms items=q:=⟨_,rfl⟩
 have HBL:=Lib.hid H.bks.len
 have hrg:=box_range w bv 36
 have hk0:Keeps w (w.alloc (.cells bv.toArray 36)):=(Keeps.refl w).alloc _
 obtain ⟨W1,hW1⟩:∃ W1,w.alloc (.cells bv.toArray 36)=W1:=⟨_,rfl⟩
 rw [hW1] at hrg hk0
 have HK0:=Lib.hid hk0
 have HRG:Hid (∀ W,Keeps W1 W→W.rangeAt w.heap.size 0 bv):=Lib.hid (fun W hk=>range_keeps hrg hk)
 have HF:Hid (∀ W,Keeps W1 W→Calls Tryz.prog 10 #[.agg bv.toArray,.slice ao items.length cap] W fun e w'=>e=.returned (.bool q)∧Keeps W w'):=Lib.hid (fun W hk=>by
  have:=lfew_any bv g es hs ms items ao cap b o W (H.keeps (hk0.trans hk)) (HI.keeps (hk0.trans hk))
  rw [hq] at this
  exact this)
 cases q with
 | false=>
  clear H HI hrg hk0 hq
  go_enter Tryz.func8,Tryz.ntmps8
  go_upto_region 1 with fail
  try rw [hW1]
  clear hW1
  go_wp2_with (first | (go_at_call 9;guard_hyp K2:_;(refine (awake_any _).mono ?_);rintro e3 w3 ⟨rfl,hk3⟩;have K3:=Lib.hid (K2.out.trans hk3);clear hk3) | (go_at_call 9;(refine (awake_any _).mono ?_);rintro e1 w1 ⟨rfl,hk1⟩;have K1:=Lib.hid hk1;clear hk1) | (refine wpList_rowG 36 _ rfl rfl w.heap.size bv _ rfl (HRG.out _ K1.out) Tryz.underlying36 rfl (by rw [HBL.out];exact booksSize) ?_) | (go_at_call 10;(refine (HF.out _ K1.out).mono ?_);rintro e2 w2 ⟨rfl,hk2⟩;have K2:=Lib.hid (K1.out.trans hk2);clear hk2))
  go_ret
  exact ⟨rfl,HK0.out.trans K3.out⟩
 | true=>
  obtain ⟨SM,hA,hes,hml,hss⟩:=fewL_ok hq H ho hh hid hi hsz
  obtain ⟨er,her⟩:∃ er,(idsF g es hs ms items p).2=er:=⟨_,rfl⟩
  obtain ⟨l1,hl1⟩:∃ l,(idsF g es hs ms items p).1=l:=⟨_,rfl⟩
  have HP1:Hid (∀ W,Keeps W1 W→Calls Tryz.prog 18 #[.agg bv.toArray,.slice ao items.length cap,.int .i64 p] W fun e w'=>∃ v,e=.returned (.tuple #[v,.int .i64 er])∧IntL w' v l1∧Keeps W w'):=Lib.hid (fun W hk=>by
   have:=ielim_any bv g es hs ms items p ao cap b o W (H.keeps (hk0.trans hk)) (HI.keeps (hk0.trans hk)) SM hA
   rw [her,hl1] at this
   exact this)
  have HP2:Hid (∀ W,Keeps W1 W→Calls Tryz.prog 19 #[.agg bv.toArray,.slice ao items.length cap,.int .i64 p] W fun e w'=>∃ v,e=.returned (.tuple #[v,.int .i64 er])∧IntL w' v l1∧Keeps W w'):=Lib.hid (fun W hk=>by
   have:=relim_any bv g es hs ms items p ao cap b o W (H.keeps (hk0.trans hk)) (HI.keeps (hk0.trans hk)) SM hA
   rw [her,hl1] at this
   exact this)
  have HRA0:Hid (∀ (i:Int) W,Keeps W1 W→Calls Tryz.prog 16 #[.agg bv.toArray,.slice ao items.length cap,.int .i64 i,.int .i64 p] W fun e w'=>e=.returned (.tuple #[.int .i64 (remF g es hs ms items p i).1,.int .i64 (remF g es hs ms items p i).2.1,.int .i64 (remF g es hs ms items p i).2.2])∧Keeps W w'):=Lib.hid (fun i W hk=>
   iremI_any bv g es hs ms items p i ao cap b o W (H.keeps (hk0.trans hk)) (HI.keeps (hk0.trans hk)) SM hA)
  have HRB0:Hid (∀ (i:Int) W,Keeps W1 W→Calls Tryz.prog 21 #[.agg bv.toArray,.slice ao items.length cap,.int .i64 i,.int .i64 p] W fun e w'=>e=.returned (.tuple #[.int .i64 (remF g es hs ms items p i).1,.int .i64 (remF g es hs ms items p i).2.1,.int .i64 (remF g es hs ms items p i).2.2])∧Keeps W w'):=Lib.hid (fun i W hk=>
   rremR_any bv g es hs ms items p i ao cap b o W (H.keeps (hk0.trans hk)) (HI.keeps (hk0.trans hk)) SM hA)
  obtain ⟨aoM,capM,bM,oM,hb24,hM⟩:=H.bks.mts
  have hcapM:=Sl.cap hM.row
  have hleM:=Sl.le hM.row
  have hmlen:=SM.mlen
  have HM:=Lib.hid hM
  have c24:=hrg 24 _ hb24
  simp only [Nat.zero_add] at c24
  have C24:=Lib.hid c24
  clear H HI hrg hk0 hq SM hA her hl1 hM hb24 hes hml hss c24
  go_enter Tryz.func8,Tryz.ntmps8
  go_upto_region 1 with fail
  try rw [hW1]
  clear hW1
  go_wp2_with (first | (go_at_call 9;(refine (awake_any _).mono ?_);rintro e1 w1 ⟨rfl,hk1⟩;have K1:=Lib.hid hk1;clear hk1) | (refine wpList_rowG 36 _ rfl rfl w.heap.size bv _ rfl (HRG.out _ K1.out) Tryz.underlying36 rfl (by rw [HBL.out];exact booksSize) ?_) | (go_at_call 10;(refine (HF.out _ K1.out).mono ?_);rintro e2 w2 ⟨rfl,hk2⟩;have K2:=Lib.hid (K1.out.trans hk2);clear hk2) | (refine wpList_rowG 36 _ rfl rfl w.heap.size bv _ rfl (HRG.out _ K2.out) Tryz.underlying36 rfl (by rw [HBL.out];exact booksSize) ?_) | (go_at_call 18;(refine (HP1.out _ K2.out).mono ?_);rintro e3 w3 ⟨v3,rfl,hp3,hk3⟩;have HP3:=Lib.hid hp3;have K3:=Lib.hid (K2.out.trans hk3);clear hp3 hk3) | (refine wpList_rowG 36 _ rfl rfl w.heap.size bv _ rfl (HRG.out _ K3.out) Tryz.underlying36 rfl (by rw [HBL.out];exact booksSize) ?_) | (go_at_call 19;(refine (HP2.out _ K3.out).mono ?_);rintro e4 w4 ⟨v4,rfl,hp4,hk4⟩;have HP4:=Lib.hid hp4;have HP34:=Lib.hid (HP3.out.keeps hk4);have K4:=Lib.hid (K3.out.trans hk4);clear hp4 hk4) | (go_at_call 20;(refine (same_any l1 _ _ w4 HP34.out HP4.out).mono ?_);rintro e5 w5 ⟨rfl,hk5⟩;have K5:=Lib.hid (K4.out.trans hk5);have c24:=K5.out.cell C24.out;have hz24:=World.block_lt_of_cell? _ _ c24;clear hk5))
  have hwo:(w5.alloc (.cells #[.int .i64 0] 3)).ownsRow w5.heap.size 3 1 (.slice (some ⟨w5.heap.size,0,none⟩) 1 1) 1 ((0 :: (ms.take 0).map (fun m=>m.x.id)).map (.int .i64)):=own_lit1R (cs:=[.int .i64 0]) (Nat.le_refl _) rfl
  have HWO:=Lib.hid hwo
  clear hwo c24 hz24
  go_loopw [11,57] (fun v vi wr=>∃ k:Nat,k≤ms.length∧vi=.int .i64 k∧Hid (Keeps w5 wr∧wr.ownsRow w5.heap.size 3 1 v (k+1) ((0 :: (ms.take k).map (fun m=>m.x.id)).map (.int .i64)))) (fun _ vi _=>ms.length - (intOf vi).toNat)
  case atStart=>exact ⟨0,Nat.zero_le _,rfl,Lib.hid ⟨(Keeps.refl _).alloc _,HWO.out⟩⟩
  case round=>
   obtain ⟨k,hk,rfl,HW⟩:=hrel
   by_cases hlt:k < ms.length
   ·have hr:=HM.out.row.keeps (HK0.out.trans (K5.out.trans HW.out.1))
    have hix:=Sl.at hr Tryz.underlying33 Tryz.sizeOf48 k hlt
    obtain ⟨m,hmk⟩:∃ m,ms[k]=m:=⟨_,rfl⟩
    have c0:=hr.cell MV.len k hlt 0 (.int .i64 m.x.id) (by rw [hmk];rfl)
    rw [Nat.add_zero] at c0
    have c24:=(K5.out.trans HW.out.1).cell C24.out
    have hz24:=World.block_lt_of_cell? _ _ c24
    have HTK:Hid ((0 :: (ms.take (k+1)).map (fun m=>m.x.id)).map (Value.int .i64)=(0 :: (ms.take k).map (fun m=>m.x.id)).map (Value.int .i64) ++ [.int .i64 m.x.id]):=Lib.hid (by rw [take_snoc _ k hlt,hmk];simp)
    clear hr hmk
    go_wp2_with (at_builtin;(refine wpList_appx elemInt rfl (.tmp 60) (.tmp 67) rfl w5 _ (k+1) _ rfl w5.heap.size HW.out.2 HW.out.1 HW.out.1.size [.int .i64 m.x.id] _ 1 rfl (by simp) rfl (fun u hu=>by cases List.mem_singleton.1 hu;rfl) (by omega) (by omega) ?_);intro v' w9 hown' hb' hsz';have HX:Hid (Keeps w5 w9∧w9.ownsRow w5.heap.size 3 1 v' (k+1+1) ((0 :: (ms.take (k+1)).map (fun m=>m.x.id)).map (.int .i64))):=Lib.hid ⟨hb',by rw [HTK.out];exact hown'⟩;clear hown' hb' hsz')
    go_roundw
    case rel=>exact ⟨k+1,by omega,by go_num,HX⟩
    case measure=>simp [intOf];omega
   ·obtain rfl:k=ms.length:=by omega
    have hov:=HW.out.2
    obtain ⟨xs,hxs⟩:∃ xs:List Int,0 :: (ms.take ms.length).map (fun m=>m.x.id)=xs:=⟨_,rfl⟩
    have hxl:xs.length=ms.length+1:=by rw [← hxs];simp
    rw [hxs] at hov
    obtain ⟨ax,cx,bx,rfl,hsx⟩:=Sl.own hov
    rw [← hxl] at hsx
    have HSX:=Lib.hid hsx
    have hcx:=Sl.cap hsx
    have hlx:=Sl.le hsx
    simp only [← hxl]
    have hx2:xs.length≤1001:=by omega
    obtain ⟨wv,rfl⟩:∃ z:World,z=wr:=⟨_,rfl⟩
    clear hov hsx hxs hxl
    go_wp2_with fail
    go_loopw [72] (fun vi wr=>∃ j:Nat,j≤xs.length∧vi=.int .i64 j∧Hid (Keeps wv wr)) (fun vi _=>xs.length - (intOf vi).toNat)
    case atStart=>exact ⟨0,Nat.zero_le _,rfl,Lib.hid (Keeps.refl _)⟩
    case round=>
     obtain ⟨j,hj,rfl,HV⟩:=hrel
     obtain ⟨wo,rfl⟩:∃ z:World,z=wr:=⟨_,rfl⟩
     by_cases hjl:j < xs.length
     ·have r1:=HSX.out.keeps HV.out
      have hix1:=Sl.at1 r1 Tryz.underlying69 Tryz.sizeOf3 j hjl
      obtain ⟨x,hx⟩:∃ x,xs[j]=x:=⟨_,rfl⟩
      have c1:=r1.cell j (.int .i64 x) (by rw [List.getElem?_map,List.getElem?_eq_getElem hjl,hx];rfl)
      simp only [Nat.add_zero,Nat.zero_add] at c1 hix1
      have KO:Hid (Keeps W1 wo):=Lib.hid (K5.out.trans (HW.out.1.trans HV.out))
      have hra:=HRA0.out x
      have hrb:=HRB0.out x
      obtain ⟨⟨r1v,r2v,r3v⟩,hrf⟩:∃ r,remF g es hs ms items p x=r:=⟨_,rfl⟩
      rw [hrf] at hra hrb
      have HR1:Hid (∀ W,Keeps wo W→Calls Tryz.prog 16 #[.agg bv.toArray,.slice ao items.length cap,.int .i64 x,.int .i64 p] W fun e w'=>e=.returned (.tuple #[.int .i64 r1v,.int .i64 r2v,.int .i64 r3v])∧Keeps W w'):=Lib.hid (fun W hW=>hra W (KO.out.trans hW))
      have HR2:Hid (∀ W,Keeps wo W→Calls Tryz.prog 21 #[.agg bv.toArray,.slice ao items.length cap,.int .i64 x,.int .i64 p] W fun e w'=>e=.returned (.tuple #[.int .i64 r1v,.int .i64 r2v,.int .i64 r3v])∧Keeps W w'):=Lib.hid (fun W hW=>hrb W (KO.out.trans hW))
      clear r1 hx hra hrb hrf
      go_wp2_with (first | (refine wpList_rowG 36 _ rfl rfl w.heap.size bv _ rfl (HRG.out _ KO.out) Tryz.underlying36 rfl (by rw [HBL.out];exact booksSize) ?_) | (go_at_call 16;(refine (HR1.out _ (Keeps.refl wo)).mono ?_);rintro e7 w7 ⟨rfl,hk7⟩;have K7:=Lib.hid hk7;clear hk7) | (refine wpList_rowG 36 _ rfl rfl w.heap.size bv _ rfl (HRG.out _ (KO.out.trans K7.out)) Tryz.underlying36 rfl (by rw [HBL.out];exact booksSize) ?_) | (go_at_call 21;(refine (HR2.out _ K7.out).mono ?_);rintro e8 w8 ⟨rfl,hk8⟩;have K8:=Lib.hid (K7.out.trans hk8);clear hk8))
      go_roundw
      case rel=>exact ⟨j+1,by omega,by go_num,Lib.hid (HV.out.trans K8.out)⟩
      case measure=>simp [intOf];omega
     ·go_wp2_with fail
      go_ret
      exact ⟨rfl,HK0.out.trans (K5.out.trans (HW.out.1.trans HV.out))⟩
end Go.Proofs.YtoaidbhiciaeaaaGreat

end
