/- Walks and plain facts that the claim rests on (RPos). No condition. -/
import Derived.Test.YtoaidbhiciaeaaaGreatPo47
import Derived.Test.YtoaidbhiciaeaaaGreatPo48
import Derived.Test.YtoaidbhiciaeaaaGreatPo42
import Derived.Test.YtoaidbhiciaeaaaGreatPo50
import Derived.Test.YtoaidbhiciaeaaaGreatPo41
set_option linter.unusedSimpArgs false
set_option linter.unusedVariables false
set_option maxHeartbeats 16000000
section
namespace Go.Proofs.YtoaidbhiciaeaaaGreat
open Go.RowKit
def ISl (W:World) (N:Nat) (own:List Itm) (v:Value):Prop:=∃ a c,v=.slice a own.length c∧W.ownsRow N 53 7 v own.length (own.flatMap Itm.cells)
def ITp (W:World) (N:Nat) (own:List Itm) (v:Value):Prop:=∃ u,v=.tuple #[u,.bool true]∧ISl W N own u
theorem ISl.keeps {W W':World} {N:Nat} {own:List Itm} {v:Value} (h:ISl W N own v) (k:Keeps W W'):ISl W' N own v:=by
 obtain ⟨a,c,e,h1⟩:=h
 exact ⟨a,c,e,own_keepsH h1 k⟩
theorem ITp.keeps {W W':World} {N:Nat} {own:List Itm} {v:Value} (h:ITp W N own v) (k:Keeps W W'):ITp W' N own v:=by
 obtain ⟨u,e,h1⟩:=h
 exact ⟨u,e,h1.keeps k⟩
theorem ISl.of {W W0:World} {N:Nat} {own:List Itm} {v:Value} (h:W.ownsRow W0.heap.size 53 7 v own.length (own.flatMap Itm.cells)) (hN:N≤W0.heap.size):ISl W N own v:=by
 obtain ⟨a,c,b,e,_⟩:=Sl.own h
 exact ⟨a,c,e,own_mono h hN⟩
theorem raw_bd {own:List Itm} {ra:Int} (h:∀ x∈own,x.OkA) (hn:own.length≤800):∀ k c,k≤(rawP own ra).length→-9000000000000000000≤psumP ((rawP own ra).take k) c∧psumP ((rawP own ra).take k) c≤9000000000000000000:=by
 intro k c _
 cases k with
 | zero=>simp [psumP]
 | succ k=>
  have e1:∀ l:List Itm,psumP (l.map (fun i=>(⟨i.acc,-i.amt⟩:Prt))) c=-accS l c:=fun l=>by
   induction l with
   | nil=>rfl
   | cons y t ih=>rw [List.map_cons,psumP,ih,accS];simp only;split <;> omega
  unfold rawP
  rw [List.take_succ_cons,psumP,← List.map_take,e1]
  have h1:=accS_small (l:=own.take k) c (fun q hq=>h q (List.mem_of_mem_take hq)) (by rw [List.length_take];omega)
  have h2:=totS_small h (by omega)
  simp only
  split <;> omega
theorem rawP_len (own:List Itm) (ra:Int):(rawP own ra).length=own.length+1:=by unfold rawP;rw [List.length_cons,List.length_map]
theorem rawP_take {own:List Itm} {ra:Int} {k:Nat} (hk:k < own.length) {x:Itm} (hx:own[k]=x):(rawP own ra).take (k+2)=(rawP own ra).take (k+1) ++ [⟨x.acc,-x.amt⟩]:=by
 have h:k+1 < (rawP own ra).length:=by rw [rawP_len];omega
 have e:(rawP own ra)[k+1]'h=⟨x.acc,-x.amt⟩:=by
  have h2:(rawP own ra)[k+1]?=some ⟨x.acc,-x.amt⟩:=by
   unfold rawP
   rw [List.getElem?_cons_succ,List.getElem?_map,List.getElem?_eq_getElem hk,hx]
   rfl
  exact Option.some.inj ((List.getElem?_eq_getElem h).symm.trans h2)
 rw [take_snoc _ (k+1) h,e]
structure RpR (w2 wr:World) (g:Grp) (a:Int) (X:List Eli) (v:Value) (ls:List PV):Prop where
 kp:Keeps w2 wr
 own:wr.ownsRow w2.heap.size 59 5 v ls.length (ls.flatMap PV.cells)
 inn:Inn pstD wr v.ownBlock ls
 eq:ls.map PV.x=psts g a X
 ok:∀ q∈X,okE g a q=true
theorem RpR.keep {w2 wr wn:World} {g:Grp} {a:Int} {X X':List Eli} {v:Value} {ls:List PV} (H:RpR w2 wr g a X v ls) (k:Keeps wr wn) (h1:psts g a X'=psts g a X) (h2:∀ q∈X',okE g a q=true):RpR w2 wn g a X' v ls:=
 ⟨H.kp.trans k,own_keepsH H.own k,H.inn.keeps k,by rw [H.eq,h1],h2⟩
theorem okX_snoc {g:Grp} {a:Int} {X:List Eli} {x:Eli} (h:∀ q∈X,okE g a q=true) (ho:okE g a x=true):∀ q∈X ++ [x],okE g a q=true:=fun q hq=>by
 rcases List.mem_append.1 hq with h1 | h1
 ·exact h q h1
 ·rw [List.mem_singleton] at h1;rw [h1];exact ho
theorem own_lit1R {w:World} {base e size:Nat} {cs:List Value} (hb:base≤w.heap.size) (hl:cs.length=size):(w.alloc (.cells cs.toArray e)).ownsRow base e size (.slice (some ⟨w.heap.size,0,none⟩) 1 1) 1 cs:=
 ⟨by omega,.inr ⟨w.heap.size,1,cs.toArray,rfl,hb,heap_alloc_new w _,Nat.le_refl 1,by unfold maxLen;omega,by simp [hl],by rw [Nat.one_mul];exact List.take_of_length_le (Nat.le_of_eq hl)⟩⟩
set_option maxRecDepth 100000 in
theorem rposts_any (bv:List Value) (g:Grp) (es:List JV) (hs:List Hol) (ms:List MV) (items:List Itm) (p:Int) (ao:Option Addr) (cap b o:Nat) (w:World) (H:BkG w bv g es hs ms) (HI:Recs w 7 Itm.cells ao items cap b o) (SM:SmallB g es hs ms items) (hA:∀ x∈items,x.OkA) :
  Calls Tryz.prog 12 #[.agg bv.toArray,.slice ao items.length cap,.int .i64 p] w fun e w'=>∃ v,e=.returned (.tuple #[v,.int .i64 (postsF g es hs ms items p).2])∧PsV w' (postsF g es hs ms items p).1 v∧Keeps w w':=by
 obtain ⟨er,her⟩:∃ q,errI g es hs ms p=q:=⟨_,rfl⟩
 have hk0:Keeps w (w.alloc (.cells bv.toArray 36)):=(Keeps.refl w).alloc _
 have hrg:=box_range w bv 36
 have hz1:w.heap.size+1=(w.alloc (.cells bv.toArray 36)).heap.size:=by simp
 obtain ⟨W1,hW1⟩:∃ W1,w.alloc (.cells bv.toArray 36)=W1:=⟨_,rfl⟩
 rw [hW1] at hrg hk0 hz1
 have HCK:Hid (Calls Tryz.prog 28 #[.agg bv.toArray,.int .i64 p] W1 fun e w'=>e=.returned (.int .i64 er)∧Keeps W1 w'):=Lib.hid (by
  have:=rcheck_any bv g es hs ms items p W1 (H.keeps hk0) SM
  rw [her] at this
  exact this)
 obtain ⟨aoM,capM,bM,oM,hb24,hM⟩:=H.bks.mts
 have HBL:=Lib.hid H.bks.len
 have HW1:=Lib.hid hk0
 have HRG:Hid (∀ W,Keeps W1 W→W.rangeAt w.heap.size 0 bv):=Lib.hid (fun W hk=>range_keeps hrg hk)
 have g24:=hrg 24 _ hb24
 simp only [Nat.zero_add] at g24
 have G24:=Lib.hid g24
 by_cases h0:er=0
 ·subst h0
  obtain ⟨hgv,hhv,hav⟩:=errI_zero her
  have hids:=allMB_ids hav
  have hpf:postsF g es hs ms items p=postR g (dayA g p) (elisR g es hs items (dayB g p) (sortM ms)):=by
   unfold postsF
   rw [if_pos her,elis_sort _ _ _ _ _ _ hids]
   rfl
  have hLm:∀ m∈sortM ms,m∈ms:=fun m hm=>(sortM_perm ms).mem_iff.1 hm
  have hLl:(sortM ms).length≤1000:=by rw [sortM_len];exact SM.mlen
  have hso:∀ W,Keeps W1 W→Calls Tryz.prog 29 #[.slice aoM ms.length capM] W fun e w'=>∃ v,e=.returned v∧w'.ownsRow W.heap.size 48 4 v (sortM ms).length ((sortM ms).flatMap MV.cells)∧Keeps W w':=fun W hk=>rsort_any ms aoM capM bM oM W (hM.row.keeps (hk0.trans hk)) SM.mlen
  obtain ⟨L,hL⟩:∃ L,sortM ms=L:=⟨_,rfl⟩
  rw [hL] at hpf hLm hLl hso
  have HPF:=Lib.hid hpf
  have HSO:Hid (∀ W,Keeps W1 W→Calls Tryz.prog 29 #[.slice aoM ms.length capM] W fun e w'=>∃ v,e=.returned v∧w'.ownsRow W.heap.size 48 4 v L.length (L.flatMap MV.cells)∧Keeps W w'):=Lib.hid hso
  have HLM:=Lib.hid hLm
  have HB:=Lib.hid H
  have HSM:=Lib.hid SM
  have HAI:=Lib.hid hA
  have HII:=Lib.hid HI
  have HMM:=Lib.hid hM
  clear H HI SM hA hM hrg hk0 her hgv hhv hav hids hpf hLm hso hL hb24
  go_enter Tryz.func12,Tryz.ntmps12
  go_upto_region 1 with fail
  try rw [hW1]
  try rw [hz1]
  clear hW1 hz1
  go_wp2_with (first | (refine wpList_rowG 36 _ rfl rfl w.heap.size bv _ rfl (HRG.out _ (Keeps.refl _)) Tryz.underlying36 rfl (by rw [HBL.out];exact booksSize) ?_) | (go_at_call 28;(refine (HCK.out).mono ?_);rintro e1 w1 ⟨rfl,hk1⟩;have K1:Hid (Keeps W1 w1):=Lib.hid hk1;have g24':=hk1.cell G24.out;have hzg:=World.block_lt_of_cell? _ _ g24';clear hk1) | (go_at_call 29;(refine (HSO.out _ K1.out).mono ?_);rintro e2 w2 ⟨v2,rfl,ho2,hk2⟩;obtain ⟨ao2,cap2,b2,rfl,hs2⟩:=Sl.own ho2;have K2:Hid (Keeps W1 w2):=Lib.hid (K1.out.trans hk2);have HS2:Hid (Recs w2 4 MV.cells ao2 L cap2 b2 0):=Lib.hid hs2;have hcap2:=Sl.cap hs2;have hle2:=Sl.le hs2;clear ho2 hs2 hk2 g24' hzg))
  clear g24
  go_loopw [9,11] (fun v vi wr=>∃ (i:Nat) (ls:List PV),i≤L.length∧vi=.int .i64 i∧Hid (RpR w2 wr g (dayA g p) (elisR g es hs items (dayB g p) (L.take i)) v ls)) (fun _ vi _=>L.length - (intOf vi).toNat)
  case atStart=>exact ⟨0,[],Nat.zero_le _,rfl,Lib.hid ⟨Keeps.refl _,World.ownsRow_nil _ _ _ _,Inn.nil,by rw [List.take_zero];rfl,by rw [List.take_zero];intro q hq;exact absurd hq List.not_mem_nil⟩⟩
  case round=>
   obtain ⟨i,ls,hi,rfl,HW⟩:=hrel
   obtain ⟨wo,rfl⟩:∃ z:World,z=wr:=⟨_,rfl⟩
   by_cases hlt:i < L.length
   ·have hr:=HS2.out.keeps HW.out.kp
    have hix:=Sl.at hr Tryz.underlying33 Tryz.sizeOf48 i hlt
    obtain ⟨m,hmk⟩:∃ m,L[i]=m:=⟨_,rfl⟩
    have c0:=hr.cell MV.len i hlt 0 (.int .i64 m.x.id) (by rw [hmk];rfl)
    have c1:=hr.cell MV.len i hlt 1 (.slice m.al m.x.left.length m.cl) (by rw [hmk];rfl)
    have c2:=hr.cell MV.len i hlt 2 (.slice m.ar m.x.right.length m.cr) (by rw [hmk];rfl)
    have c3:=hr.cell MV.len i hlt 3 (.int .i64 m.x.state) (by rw [hmk];rfl)
    simp only [Nat.add_zero,Nat.zero_add] at c0 c1 c2 c3 hix
    have hmem:m∈ms:=HLM.out m (by rw [← hmk];exact List.getElem_mem hlt)
    have HCC:Hid (∀ W,Keeps wo W→W.cell? ⟨b2,i * 4,none⟩=some (.int .i64 m.x.id)∧W.cell? ⟨b2,i * 4+1,none⟩=some (.slice m.al m.x.left.length m.cl)∧W.cell? ⟨b2,i * 4+2,none⟩=some (.slice m.ar m.x.right.length m.cr)∧W.cell? ⟨b2,i * 4+3,none⟩=some (.int .i64 m.x.state)):=Lib.hid (fun W hW=>⟨hW.cell c0,hW.cell c1,hW.cell c2,hW.cell c3⟩)
    have KW1:Keeps W1 wo:=K2.out.trans HW.out.kp
    have hLh:=HMM.out.left m hmem
    have hRh:=HMM.out.right m hmem
    have hit:∀ W,Keeps wo W→Calls Tryz.prog 15 #[.agg bv.toArray,.slice ao items.length cap,.agg #[.int .i64 m.x.id,.slice m.al m.x.left.length m.cl,.slice m.ar m.x.right.length m.cr,.int .i64 m.x.state],.int .i64 p] W (IO W (eliB g es hs items (dayB g p) m.x) (eliM es items m.x).own):=fun W hk=>
     ritems_any bv g es hs ms items p m.x ao cap b o m.al m.cl m.bl m.ol m.ar m.cr m.br m.or_ W (HB.out.keeps (HW1.out.trans (KW1.trans hk))) HSM.out (HII.out.keeps (HW1.out.trans (KW1.trans hk))) (hLh.keeps (HW1.out.trans (KW1.trans hk))) (hRh.keeps (HW1.out.trans (KW1.trans hk))) (HSM.out.sides m hmem).1 (HSM.out.sides m hmem).2
    have HTK0:Hid (elisR g es hs items (dayB g p) (L.take (i+1))=if eliB g es hs items (dayB g p) m.x=true then elisR g es hs items (dayB g p) (L.take i) ++ [eliM es items m.x] else elisR g es hs items (dayB g p) (L.take i)):=Lib.hid (by rw [take_snoc _ i hlt,hmk,elisR_snoc])
    have HMK:=Lib.hid hmk
    clear hr hmk c0 c1 c2 c3
    cases hq:eliB g es hs items (dayB g p) m.x with
    | false=>
     have HTK:Hid (elisR g es hs items (dayB g p) (L.take (i+1))=elisR g es hs items (dayB g p) (L.take i)):=Lib.hid (by rw [HTK0.out,hq];rfl)
     rw [hq] at hit
     obtain ⟨own,hown⟩:∃ own,(eliM es items m.x).own=own:=⟨_,rfl⟩
     rw [hown] at hit
     have HIT:=Lib.hid hit
     clear hit hq hown HTK0 KW1 hLh hRh
     go_upto_region 9 with fail
     refine wp_region_steps (A:=?_) Keeps [some 38,some 39,some 40,some 41,some 42,some 43,some 44,some 45,some 37,some 46,some 47,some 12,some 13] [[],[],[],[],[2,3],[4],[],[0,1,5,6],[7],[8],[8],[9],[10]] 13 (by kernel_rfl) (by kernel_rfl) (by kernel_rfl) (by kernel_rfl) (by kernel_rfl) (by kernel_rfl) Keeps.refl (fun _ _ _=>Keeps.trans) ?_ ?_
     rotate_left
     ·intro f;simp only [putL,Act.put,List.setIfInBounds_toArray,List.set_cons_zero,List.set_cons_succ,Nat.zero_add,Nat.reduceAdd];exact rfl
     refine Steps.pure (v:=.agg bv.toArray) Keeps.refl rfl (fun f w' hR hV=>⟨?_,?_⟩) ?_
     ·(rfl)
     ·(clear hV;have hkw:=(Keeps.refl wo).drew.trans hR;obtain ⟨c0,c1,c2,c3⟩:=HCC.out _ hkw;exact exec_load_mid 36 (.tmp 3) rfl w.heap.size rfl bv _ (HRG.out _ (K2.out.trans (HW.out.kp.trans hkw))) Tryz.underlying36 rfl (by rw [HBL.out];exact booksSize))
     iterate 6 (refine Steps.pure (v:=?_) Keeps.refl rfl (fun f w' hR hV=>⟨?_,?_⟩) ?_;rotate_left;(focus rfl);(focus ((repeat (obtain ⟨hq,hV⟩:=hV;(try replace hq:_=_:=hq)));have hkw:=(Keeps.refl wo).drew.trans hR;obtain ⟨c0,c1,c2,c3⟩:=HCC.out _ hkw;go_simp;all_goals (try with_reducible rfl))))
     refine Steps.call (fun _ v=>v=.tuple #[.slice none 0 0,.bool false]) rfl (fun _ _ _ _ h=>h) (fun f w' hR hV=>⟨?_,?_⟩) ?_
     ·(rfl)
     ·(obtain ⟨h0,h1,h5,h6,_⟩:=hV;replace h0:f 0=_:=h0;replace h1:f 1=_:=h1;replace h5:f 5=_:=h5;replace h6:f 6=_:=h6;have hkw:=(Keeps.refl wo).drew.trans hR;obtain ⟨c0,c1,c2,c3⟩:=HCC.out _ hkw;go_simp;go_at_call 15;refine (HIT.out _ hkw).mono ?_;rintro e w5 ⟨u,rfl,hk5,_,hn5⟩;obtain rfl:=hn5 rfl;exact StepPost.of _ rfl rfl hk5)
     iterate 5 (refine Steps.pure (v:=?_) Keeps.refl rfl (fun f w' hR hV=>⟨?_,?_⟩) ?_;rotate_left;(focus rfl);(focus ((repeat (obtain ⟨hq,hV⟩:=hV;(try replace hq:_=_:=hq)));have hkw:=(Keeps.refl wo).drew.trans hR;obtain ⟨c0,c1,c2,c3⟩:=HCC.out _ hkw;go_simp;all_goals (try with_reducible rfl))))
     all_goals (refine Steps.done [11,12] (by kernel_rfl) rfl (fun f wz hR hV=>?_);obtain ⟨h11,h12,_⟩:=hV;replace h11:f 11=_:=h11;replace h12:f 12=_:=h12;simp only [h11];simp only [h12])
     have HKZ:=Lib.hid ((Keeps.refl wo).drew.trans hR)
     clear hR h11 h12
     go_wp2_with fail
     go_roundw
     case rel=>exact ⟨i+1,ls,by omega,by go_num,Lib.hid (HW.out.keep HKZ.out (by rw [HTK.out]) (by rw [HTK.out];exact HW.out.ok))⟩
     case measure=>simp [intOf];omega
    | true=>
     have HTK:Hid (elisR g es hs items (dayB g p) (L.take (i+1))=elisR g es hs items (dayB g p) (L.take i) ++ [eliM es items m.x]):=Lib.hid (by rw [HTK0.out,hq];rfl)
     have HEQ:=Lib.hid hq
     have hem:eliM es items m.x∈elisS g es hs ms items p:=elisS_mem.2 ⟨m,hmem,hq,rfl⟩
     rw [hq] at hit
     have hol:=own_len HSM.out.sides hem
     have hoA:∀ x∈(eliM es items m.x).own,x.OkA:=fun x hx=>HAI.out x (own_items hem x hx)
     have hokE:okE g (dayA g p) (eliM es items m.x)=okPs (eliM es items m.x).own (remA g (dayA g p) (eliM es items m.x).own):=rfl
     have hpst:pstE g (dayA g p) (eliM es items m.x)=⟨3,(sidesR es m.x).1,m.x.id,0,partsP (eliM es items m.x).own (remA g (dayA g p) (eliM es items m.x).own)⟩:=rfl
     obtain ⟨own,hown⟩:∃ own,(eliM es items m.x).own=own:=⟨_,rfl⟩
     rw [hown] at hit hol hoA hokE hpst
     obtain ⟨ra,hra⟩:∃ ra,remA g (dayA g p) own=ra:=⟨_,rfl⟩
     obtain ⟨T,hT⟩:∃ T,totS own=T:=⟨_,rfl⟩
     have hrm:∀ W a c bb,Keeps wo W→Recs W 7 Itm.cells a own c bb 0→Calls Tryz.prog 30 #[.agg bv.toArray,.slice a own.length c,.int .i64 p] W fun e w'=>e=.returned (.tuple #[.int .i64 T,.int .i64 ra])∧Keeps W w':=fun W a c bb hk hr=>by
      have:=rrem_any bv g es hs ms p own a c bb 0 W (HB.out.keeps (HW1.out.trans (KW1.trans hk))) hr hol hoA
      rw [hT,hra] at this
      exact this
     have HRM0:=Lib.hid hrm
     rw [hra] at hokE hpst
     have hbd:=raw_bd (ra:=ra) hoA hol
     obtain ⟨⟨lf,rg,se⟩,hsd⟩:∃ r,sidesR es m.x=r:=⟨_,rfl⟩
     have HSD:Hid (∀ W,Keeps wo W→Calls Tryz.prog 32 #[.agg bv.toArray,.agg #[.int .i64 m.x.id,.slice m.al m.x.left.length m.cl,.slice m.ar m.x.right.length m.cr,.int .i64 m.x.state]] W fun e w'=>e=.returned (.tuple #[.int .i64 lf,.int .i64 rg,.int .i64 se])∧Keeps W w'):=Lib.hid (fun W hk=>by
      have:=rsides_any bv es ms m.x m.al m.cl m.bl m.ol m.ar m.cr m.br m.or_ W (HB.out.bks.keeps (HW1.out.trans (KW1.trans hk))) HSM.out.lines (hLh.keeps (HW1.out.trans (KW1.trans hk))) (hRh.keeps (HW1.out.trans (KW1.trans hk)))
      rw [hsd] at this
      exact this)
     rw [hsd] at hpst
     have hraw:rawP own ra=⟨ra,T⟩ :: own.map (fun i=>(⟨i.acc,-i.amt⟩:Prt)):=by unfold rawP;rw [hT]
     have HRAW1:Hid (((rawP own ra).take 1).flatMap Prt.cells=[.int .i64 ra,.int .i64 T]):=Lib.hid (by rw [hraw];rfl)
     have HRL:Hid ((rawP own ra).length=own.length+1):=Lib.hid (rawP_len own ra)
     have HRT:Hid (∀ (k:Nat) (hk:k < own.length) (x:Itm),own[k]=x→(rawP own ra).take (k+2)=(rawP own ra).take (k+1) ++ [⟨x.acc,-x.amt⟩]):=Lib.hid (fun k hk x hx=>rawP_take hk hx)
     have HPR:Hid (partsR (rawP own ra)=if okPs own ra then (partsP own ra,true) else ([],false)):=Lib.hid (partsR_raw own ra)
     have HBD:=Lib.hid hbd
     have HIT:=Lib.hid hit
     have HOE:=Lib.hid hokE
     have HPS:=Lib.hid hpst
     have HOA:=Lib.hid hoA
     have KW:=Lib.hid KW1
     clear hit hq hown HTK0 KW1 hLh hRh hem hoA hokE hpst hra hT hrm hbd hsd hraw
     go_upto_region 9 with fail
     refine wp_region_steps (A:=?_) Keeps [some 38,some 39,some 40,some 41,some 42,some 43,some 44,some 45,some 37,some 46,some 47,some 12,some 13] [[],[],[],[],[2,3],[4],[],[0,1,5,6],[7],[8],[8],[9],[10]] 13 (by kernel_rfl) (by kernel_rfl) (by kernel_rfl) (by kernel_rfl) (by kernel_rfl) (by kernel_rfl) Keeps.refl (fun _ _ _=>Keeps.trans) ?_ ?_
     rotate_left
     ·intro f;simp only [putL,Act.put,List.setIfInBounds_toArray,List.set_cons_zero,List.set_cons_succ,Nat.zero_add,Nat.reduceAdd];exact rfl
     refine Steps.pure (v:=.agg bv.toArray) Keeps.refl rfl (fun f w' hR hV=>⟨?_,?_⟩) ?_
     ·(rfl)
     ·(clear hV;have hkw:=(Keeps.refl wo).drew.trans hR;obtain ⟨c0,c1,c2,c3⟩:=HCC.out _ hkw;exact exec_load_mid 36 (.tmp 3) rfl w.heap.size rfl bv _ (HRG.out _ (K2.out.trans (HW.out.kp.trans hkw))) Tryz.underlying36 rfl (by rw [HBL.out];exact booksSize))
     iterate 6 (refine Steps.pure (v:=?_) Keeps.refl rfl (fun f w' hR hV=>⟨?_,?_⟩) ?_;rotate_left;(focus rfl);(focus ((repeat (obtain ⟨hq,hV⟩:=hV;(try replace hq:_=_:=hq)));have hkw:=(Keeps.refl wo).drew.trans hR;obtain ⟨c0,c1,c2,c3⟩:=HCC.out _ hkw;go_simp;all_goals (try with_reducible rfl))))
     refine Steps.call (fun W v=>ITp W wo.heap.size own v) rfl (fun _ _ _ k h=>h.keeps k) (fun f w' hR hV=>⟨?_,?_⟩) ?_
     ·(rfl)
     ·(obtain ⟨h0,h1,h5,h6,_⟩:=hV;replace h0:f 0=_:=h0;replace h1:f 1=_:=h1;replace h5:f 5=_:=h5;replace h6:f 6=_:=h6;have hkw:=(Keeps.refl wo).drew.trans hR;obtain ⟨c0,c1,c2,c3⟩:=HCC.out _ hkw;go_simp;go_at_call 15;refine (HIT.out _ hkw).mono ?_;rintro e w5 ⟨u,rfl,hk5,ho5,_⟩;exact StepPost.of _ rfl ⟨u,rfl,ISl.of (ho5 rfl) hkw.size⟩ hk5)
     refine Steps.call (fun W v=>ITp W wo.heap.size own v) rfl (fun _ _ _ k h=>h.keeps k) (fun f w' hR hV=>⟨?_,?_⟩) ?_
     ·(rfl)
     ·(obtain ⟨h7,_⟩:=hV;replace h7:ITp w' wo.heap.size own (f 7):=h7;have hkw:=(Keeps.refl wo).drew.trans hR;obtain ⟨c0,c1,c2,c3⟩:=HCC.out _ hkw;go_simp;obtain ⟨u,e7,hu⟩:=h7;go_simp;exact StepPost.of _ rfl ⟨u,rfl,hu⟩ (Keeps.refl _))
     refine Steps.call (fun W v=>ISl W wo.heap.size own v) rfl (fun _ _ _ k h=>h.keeps k) (fun f w' hR hV=>⟨?_,?_⟩) ?_
     ·(rfl)
     ·(obtain ⟨h8,_⟩:=hV;replace h8:ITp w' wo.heap.size own (f 8):=h8;have hkw:=(Keeps.refl wo).drew.trans hR;obtain ⟨c0,c1,c2,c3⟩:=HCC.out _ hkw;go_simp;obtain ⟨u,e8,hu⟩:=h8;go_simp;exact StepPost.of _ rfl hu (Keeps.refl _))
     refine Steps.pure (v:=.bool true) Keeps.refl rfl (fun f w' hR hV=>⟨?_,?_⟩) ?_
     ·(rfl)
     ·(obtain ⟨h8,_⟩:=hV;replace h8:ITp w' wo.heap.size own (f 8):=h8;have hkw:=(Keeps.refl wo).drew.trans hR;obtain ⟨c0,c1,c2,c3⟩:=HCC.out _ hkw;obtain ⟨u,e8,_⟩:=h8;go_simp;all_goals (try with_reducible rfl))
     refine Steps.call (fun W v=>ISl W wo.heap.size own v) rfl (fun _ _ _ k h=>h.keeps k) (fun f w' hR hV=>⟨?_,?_⟩) ?_
     ·(rfl)
     ·(obtain ⟨h9,_⟩:=hV;replace h9:ISl w' wo.heap.size own (f 9):=h9;have hkw:=(Keeps.refl wo).drew.trans hR;obtain ⟨c0,c1,c2,c3⟩:=HCC.out _ hkw;go_simp;go_simp;exact StepPost.of _ rfl h9 (Keeps.refl _))
     (refine Steps.pure (v:=?_) Keeps.refl rfl (fun f w' hR hV=>⟨?_,?_⟩) ?_;rotate_left;(focus rfl);(focus ((repeat (obtain ⟨hq,hV⟩:=hV;(try replace hq:_=_:=hq)));have hkw:=(Keeps.refl wo).drew.trans hR;obtain ⟨c0,c1,c2,c3⟩:=HCC.out _ hkw;go_simp;all_goals (try with_reducible rfl))))
     all_goals (refine Steps.done [11,12] (by kernel_rfl) rfl (fun f wz hR hV=>?_);obtain ⟨h11,h12,_⟩:=hV;replace h11:ISl wz wo.heap.size own (f 11):=h11;replace h12:f 12=_:=h12;simp only [h12])
     obtain ⟨a9,c9,e11,ho9⟩:=h11
     simp only [e11]
     have HKZ:=Lib.hid ((Keeps.refl wo).drew.trans hR)
     obtain ⟨a9',c9',b9,he9,hs9⟩:=Sl.own (e11 ▸ ho9)
     cases he9
     have HS9:Hid (Recs wz 7 Itm.cells a9 own c9 b9 0):=Lib.hid hs9
     have hcap9:=Sl.cap hs9
     have hle9:=Sl.le hs9
     have HRM:Hid (∀ W,Keeps wz W→Calls Tryz.prog 30 #[.agg bv.toArray,.slice a9 own.length c9,.int .i64 p] W fun e w'=>e=.returned (.tuple #[.int .i64 T,.int .i64 ra])∧Keeps W w'):=Lib.hid (fun W hW=>HRM0.out W a9 c9 b9 (HKZ.out.trans hW) (HS9.out.keeps hW))
     clear hR h12 e11 ho9 hs9 HRM0
     go_wp2_with (first | (refine wpList_rowG 36 _ rfl rfl w.heap.size bv _ rfl (HRG.out _ (KW.out.trans HKZ.out)) Tryz.underlying36 rfl (by rw [HBL.out];exact booksSize) ?_) | (go_at_call 30;(refine (HRM.out _ (Keeps.refl wz)).mono ?_);rintro e3 w3 ⟨rfl,hk3⟩;have K3:Hid (Keeps wz w3):=Lib.hid hk3;clear hk3))
     have hwo:(w3.alloc (.cells #[.int .i64 ra,.int .i64 T] 63)).ownsRow w3.heap.size 63 2 (.slice (some ⟨w3.heap.size,0,none⟩) 1 1) 1 (((rawP own ra).take 1).flatMap Prt.cells):=by
      rw [HRAW1.out]
      exact own_lit1R (cs:=[.int .i64 ra,.int .i64 T]) (Nat.le_refl _) rfl
     have hwk:Keeps w3 (w3.alloc (.cells #[.int .i64 ra,.int .i64 T] 63)):=(Keeps.refl _).alloc _
     obtain ⟨W4,hW4⟩:∃ W4,w3.alloc (.cells #[.int .i64 ra,.int .i64 T] 63)=W4:=⟨_,rfl⟩
     rw [hW4] at hwo hwk ⊢
     have HWO:=Lib.hid hwo
     have HWK:=Lib.hid hwk
     clear hW4 hwo hwk
     go_loopw [16,17] (fun vp vk w8=>∃ k:Nat,k≤own.length∧vk=.int .i64 k∧Hid (Keeps w3 w8∧w8.ownsRow w3.heap.size 63 2 vp (k+1) (((rawP own ra).take (k+1)).flatMap Prt.cells))) (fun _ vk _=>own.length - (intOf vk).toNat)
     case atStart=>exact ⟨0,Nat.zero_le _,rfl,Lib.hid ⟨HWK.out,HWO.out⟩⟩
     case round=>
      obtain ⟨k,hk,rfl,HV⟩:=hrel
      by_cases hkl:k < own.length
      ·have hr:=HS9.out.keeps (K3.out.trans HV.out.1)
       have hixo:=Sl.at hr Tryz.underlying37 Tryz.sizeOf53 k hkl
       obtain ⟨x,hx⟩:∃ x,own[k]=x:=⟨_,rfl⟩
       have d3:=hr.cell Itm.len k hkl 3 (.int .i64 x.acc) (by rw [hx];rfl)
       have d6:=hr.cell Itm.len k hkl 6 (.int .i64 x.amt) (by rw [hx];rfl)
       simp only [Nat.add_zero,Nat.zero_add] at d3 d6 hixo
       have hxa:=(HOA.out x (by rw [← hx];exact List.getElem_mem ..)).2
       have hw1:wrap64 (-x.amt)=-x.amt:=IntWalk.wrap64_in _ (by omega)
       have hw2:IntKind.i64.wrap (-x.amt)=-x.amt:=IntWalk.i64_in _ (by omega)
       have HRK:=Lib.hid (HRT.out k hkl x hx)
       have HXO:=Lib.hid hx
       have HPZ:Hid (∀ W,Keeps w3 W→W.cell? ⟨b9,k * 7+3,none⟩=some (.int .i64 x.acc)∧W.cell? ⟨b9,k * 7+6,none⟩=some (.int .i64 x.amt)):=Lib.hid (fun W hW=>by
        have hr:=HS9.out.keeps (K3.out.trans hW)
        have d3:=hr.cell Itm.len k hkl 3 (.int .i64 x.acc) (by rw [HXO.out];rfl)
        have d6:=hr.cell Itm.len k hkl 6 (.int .i64 x.amt) (by rw [HXO.out];rfl)
        simp only [Nat.add_zero,Nat.zero_add] at d3 d6
        exact ⟨d3,d6⟩)
       clear hr hx hxa d3 d6
       go_upto_region 16 with fail
       go_region_held3 (fun w'=>w'.cell? ⟨b9,k * 7+3,none⟩=some (.int .i64 x.acc)∧w'.cell? ⟨b9,k * 7+6,none⟩=some (.int .i64 x.amt))
        (first | exact HPZ.out _ hk5 | exact HPZ.out _ (HV.out.1.trans (Keeps.refl wr).drew) | exact HPZ.out _ (HV.out.1.trans ((Keeps.refl wr).alloc _).drew))
        (first | (refine step_all_raw elemPrt rfl (.tmp 67) (.tmp 80) rfl u16 (k+1) _ (by rfl) w3.heap.size (own_keepsH HV.out.2 ((Keeps.refl wr).alloc _).drew) (Nat.le_trans HV.out.1.size (by simp)) _ 1 1 _ 0 [.int .i64 x.acc,.int .i64 (-x.amt)] (by rfl) (by exact Sl.block rfl (fun j u hj=>cell_newy (by simp) hj)) (Prt.one ⟨x.acc,-x.amt⟩) (by omega) (by omega) ?_;intro v1 w1' hown1 hgrow1 hat1;have hk5:Keeps w3 w1':=Below.grown (HV.out.1.trans ((Keeps.refl wr).alloc _).drew) hgrow1 (HV.out.1.trans ((Keeps.refl wr).alloc _).drew).size (fun j hj=>(HV.out.2.lt j hj).1)))
       all_goals
        have HXX:Hid (Keeps w3 w1'∧w1'.ownsRow w3.heap.size 63 2 v1 (k+1+1) (((rawP own ra).take (k+1+1)).flatMap Prt.cells)):=Lib.hid ⟨hk5,by rw [HRK.out,List.flatMap_append,List.flatMap_singleton];exact hown1⟩
        clear hown1 hgrow1 hat1 hk5
        go_wp2_with fail
        go_roundw
        case rel=>exact ⟨k+1,by omega,by go_num,HXX⟩
        case measure=>simp [intOf];omega
      ·obtain rfl:k=own.length:=by omega
       obtain ⟨wx,rfl⟩:∃ z:World,z=wr:=⟨_,rfl⟩
       have hov:=HV.out.2
       rw [List.take_of_length_le (by rw [HRL.out];exact Nat.le_refl _)] at hov
       obtain ⟨a16,c16,b16,rfl,hs16⟩:=Sl.own hov
       have hcp16:=Sl.cap hs16
       have hs16':Recs wx 2 Prt.cells a16 (rawP own ra) c16 b16 0:=by
        unfold Recs
        rw [HRL.out]
        exact hs16
       have hpt:=rparts_any (rawP own ra) a16 c16 b16 0 wx hs16' (by rw [HRL.out];omega) HBD.out
       rw [HRL.out,HPR.out] at hpt
       have HKX:Hid (Keeps wo wx):=Lib.hid (HKZ.out.trans (K3.out.trans HV.out.1))
       clear hov hs16 hs16'
       cases hok:okPs own ra with
       | false=>
        rw [hok] at hpt
        simp only [Bool.false_eq_true,if_false] at hpt
        have HPT:=Lib.hid hpt
        have HBF:Hid (postsF g es hs ms items p=([],2)):=Lib.hid (by
         rw [HPF.out]
         unfold postR
         rw [if_neg]
         rw [List.all_eq_true]
         intro hall
         have:=hall (eliM es items m.x) (List.mem_map.2 ⟨m,List.mem_filter.2 ⟨by rw [← HMK.out];exact List.getElem_mem hlt,HEQ.out⟩,rfl⟩)
         rw [HOE.out,hok] at this
         cases this)
        clear hpt hok
        go_wp2_with (go_at_call 31;(refine (HPT.out).mono ?_);rintro e6 w6 ⟨v6,rfl,ho6,hk6⟩)
        refine bodyPost_ret (results_tmp2 rfl _ _ _) rfl ?_
        rw [HBF.out]
        exact ⟨_,rfl,PsV.nil _,HW1.out.trans (KW.out.trans (HKX.out.trans hk6))⟩
       | true=>
        rw [hok] at hpt
        simp only [if_true] at hpt
        have HOK2:Hid (∀ q∈elisR g es hs items (dayB g p) (L.take (i+1)),okE g (dayA g p) q=true):=Lib.hid (by
         rw [HTK.out]
         exact okX_snoc HW.out.ok (HOE.out.trans hok))
        have hps:=HPS.out
        obtain ⟨pp,hpp⟩:∃ pp,partsP own ra=pp:=⟨_,rfl⟩
        rw [hpp] at hpt hps
        have HPS:=Lib.hid hps
        have HPT:=Lib.hid hpt
        clear hpt hok hps hpp
        go_upto_region 20 with (go_at_call 31;(refine (HPT.out).mono ?_);rintro e6 w6 ⟨v6,rfl,ho6,hk6⟩;obtain ⟨a5,c5,b6,rfl,hs6⟩:=Sl.own ho6;have HO6:=Lib.hid ho6;have HS6:=Lib.hid hs6;have K6:Hid (Keeps wx w6):=Lib.hid hk6;have hcp6:=Sl.cap hs6;clear ho6 hs6 hk6)
        have HKP:Hid (Keeps wo w6):=Lib.hid (HKX.out.trans K6.out)
        refine wp_region_steps (A:=?_) Keeps [some 90,some 91,some 92,some 93,some 94,some 95,some 89,some 96,some 97,some 98,some 19,some 20,some 21] [[],[],[],[1,2],[3],[0,4],[5],[6],[6],[6],[7],[8],[9]] 13 (by kernel_rfl) (by kernel_rfl) (by kernel_rfl) (by kernel_rfl) (by kernel_rfl) (by kernel_rfl) Keeps.refl (fun _ _ _=>Keeps.trans) ?_ ?_
        rotate_left
        ·intro f;simp only [putL,Act.put,List.setIfInBounds_toArray,List.set_cons_zero,List.set_cons_succ,Nat.zero_add,Nat.reduceAdd];exact rfl
        refine Steps.pure (v:=.agg bv.toArray) Keeps.refl rfl (fun f w' hR hV=>⟨?_,?_⟩) ?_
        ·(rfl)
        ·(clear hV;have hkw:=HKP.out.trans ((Keeps.refl w6).drew.trans hR);obtain ⟨c0,c1,c2,c3⟩:=HCC.out _ hkw;exact exec_load_mid 36 (.tmp 3) rfl w.heap.size rfl bv _ (HRG.out _ (K2.out.trans (HW.out.kp.trans hkw))) Tryz.underlying36 rfl (by rw [HBL.out];exact booksSize))
        iterate 4 (refine Steps.pure (v:=?_) Keeps.refl rfl (fun f w' hR hV=>⟨?_,?_⟩) ?_;rotate_left;(focus rfl);(focus ((repeat (obtain ⟨hq,hV⟩:=hV;(try replace hq:_=_:=hq)));have hkw:=HKP.out.trans ((Keeps.refl w6).drew.trans hR);obtain ⟨c0,c1,c2,c3⟩:=HCC.out _ hkw;go_simp;all_goals (try with_reducible rfl))))
        refine Steps.call (fun _ v=>v=.tuple #[.int .i64 lf,.int .i64 rg,.int .i64 se]) rfl (fun _ _ _ _ h=>h) (fun f w' hR hV=>⟨?_,?_⟩) ?_
        ·(rfl)
        ·(obtain ⟨h0,h4,_⟩:=hV;replace h0:f 0=_:=h0;replace h4:f 4=_:=h4;have hkw:=HKP.out.trans ((Keeps.refl w6).drew.trans hR);obtain ⟨c0,c1,c2,c3⟩:=HCC.out _ hkw;go_simp;go_at_call 32;refine (HSD.out _ hkw).mono ?_;rintro e w9 ⟨rfl,hk9⟩;exact StepPost.of _ rfl rfl hk9)
        iterate 7 (refine Steps.pure (v:=?_) Keeps.refl rfl (fun f w' hR hV=>⟨?_,?_⟩) ?_;rotate_left;(focus rfl);(focus ((repeat (obtain ⟨hq,hV⟩:=hV;(try replace hq:_=_:=hq)));have hkw:=HKP.out.trans ((Keeps.refl w6).drew.trans hR);obtain ⟨c0,c1,c2,c3⟩:=HCC.out _ hkw;go_simp;all_goals (try with_reducible rfl))))
        all_goals (refine Steps.done [10,11,12] (by kernel_rfl) rfl (fun f wy hR hV=>?_);obtain ⟨h10,h11,h12,_⟩:=hV;replace h10:f 10=_:=h10;replace h11:f 11=_:=h11;replace h12:f 12=_:=h12;simp only [h10];simp only [h11];simp only [h12])
        have HK6Y:Hid (Keeps w6 wy):=Lib.hid ((Keeps.refl w6).drew.trans hR)
        have HKY:Hid (Keeps wo wy):=Lib.hid (HKP.out.trans HK6Y.out)
        have hls:ls.length≤i:=by
         have h1:=congrArg List.length HW.out.eq
         rw [List.length_map] at h1
         have h2:=psts_len g (dayA g p) (elisR g es hs items (dayB g p) (L.take i))
         have h3:=elis_len g es hs items (dayB g p) (L.take i)
         rw [List.length_take] at h3
         omega
        clear hR h10 h11 h12
        by_cases hp0:pp=[]
        ·have e0:pp.length=0:=by rw [hp0];rfl
         have HSK:Hid (psts g (dayA g p) (elisR g es hs items (dayB g p) (L.take (i+1)))=psts g (dayA g p) (elisR g es hs items (dayB g p) (L.take i))):=Lib.hid (by rw [HTK.out,psts_snoc,if_pos (by rw [HPS.out];exact hp0)])
         clear hp0
         go_wp2_with fail
         go_roundw
         case rel=>exact ⟨i+1,ls,by omega,by go_num,Lib.hid (HW.out.keep HKY.out HSK.out HOK2.out)⟩
         case measure=>simp [intOf];omega
        ·have e1:0 < pp.length:=List.length_pos_iff.2 hp0
         have e0:decide ((0:Int) < (pp.length:Int))=true:=decide_eq_true (by omega)
         have HNE:=Lib.hid hp0
         obtain ⟨c0,_,_,_⟩:=HCC.out _ HKY.out
         have hzc:=World.block_lt_of_cell? _ _ c0
         clear hp0
         go_wp2_with (at_builtin;(refine wpList_app_nest elemPst rfl (.tmp 102) (.tmp 111) rfl w2 u9 ls.length (ls.flatMap PV.cells) rfl w2.heap.size (own_keepsH HW.out.own HKY.out) (HW.out.kp.trans HKY.out) (HW.out.kp.trans HKY.out).size pstD ls (HW.out.inn.keeps HKY.out) ⟨⟨3,lf,m.x.id,0,pp⟩,a5,c5,b6⟩ (Sl.keeps HS6.out HK6Y.out) (off_new (D:=pstD) (y:=⟨⟨3,lf,m.x.id,0,pp⟩,a5,c5,b6⟩) (own_keepsH HW.out.own HKX.out) (own_keepsH HO6.out HK6Y.out) (Sl.keeps HS6.out HK6Y.out)) [.int .i64 3,.int .i64 lf,.int .i64 m.x.id,.int .i64 0,.slice a5 pp.length c5] _ 1 rfl (by simp) rfl (PV.one ⟨⟨3,lf,m.x.id,0,pp⟩,a5,c5,b6⟩) (by omega) (by omega) ?_);intro v' w9 hown' hinn' hk9 hsz9;have HNX:Hid (RpR w2 w9 g (dayA g p) (elisR g es hs items (dayB g p) (L.take (i+1))) v' (ls ++ [⟨⟨3,lf,m.x.id,0,pp⟩,a5,c5,b6⟩])):=Lib.hid ⟨hk9,by rw [List.length_append,List.flatMap_append];exact hown',hinn',by rw [List.map_append,HW.out.eq,HTK.out,psts_snoc,if_neg (by rw [HPS.out];exact HNE.out),HPS.out];rfl,HOK2.out⟩;clear hown' hinn' hk9 hsz9)
         go_roundw
         case rel=>exact ⟨i+1,ls ++ [⟨⟨3,lf,m.x.id,0,pp⟩,a5,c5,b6⟩],by omega,by go_num,HNX⟩
         case measure=>simp [intOf];omega
   ·obtain rfl:i=L.length:=by omega
    have HBF:Hid (postsF g es hs ms items p=(psts g (dayA g p) (elisR g es hs items (dayB g p) L),0)):=Lib.hid (by
     rw [HPF.out]
     unfold postR
     rw [if_pos]
     rw [List.all_eq_true]
     have:=HW.out.ok
     rw [List.take_length] at this
     exact this)
    have heq:=HW.out.eq
    rw [List.take_length] at heq
    have HEQ:=Lib.hid heq
    clear heq
    obtain ⟨ao6,cap6,b6,he6,hs6⟩:=Sl.own HW.out.own
    subst he6
    have HS6:=Lib.hid hs6
    clear hs6
    go_wp2_with fail
    refine bodyPost_ret (results_tmp2 rfl _ _ _) rfl ?_
    rw [HBF.out]
    exact ⟨_,rfl,⟨ls,ao6,cap6,b6,rfl,HS6.out,fun q hq=>(HW.out.inn q hq).1,HEQ.out⟩,HW1.out.trans (K2.out.trans HW.out.kp)⟩
 ·have HPF:Hid (postsF g es hs ms items p=([],er)):=Lib.hid (by unfold postsF;rw [if_neg (by rw [her];exact h0),her])
  have e0:(er != 0)=true:=by simpa using h0
  clear h0 her H HI SM hA hM hrg hk0 hb24 g24
  go_enter Tryz.func12,Tryz.ntmps12
  go_upto_region 1 with fail
  try rw [hW1]
  try rw [hz1]
  clear hW1 hz1
  go_wp2_with (first | (refine wpList_rowG 36 _ rfl rfl w.heap.size bv _ rfl (HRG.out _ (Keeps.refl _)) Tryz.underlying36 rfl (by rw [HBL.out];exact booksSize) ?_) | (go_at_call 28;(refine (HCK.out).mono ?_);rintro e1 w1 ⟨rfl,hk1⟩;have K1:Hid (Keeps W1 w1):=Lib.hid hk1;have g24':=hk1.cell G24.out;have hzg:=World.block_lt_of_cell? _ _ g24';clear hk1))
  refine bodyPost_ret (results_tmp2 rfl _ _ _) rfl ?_
  rw [HPF.out]
  exact ⟨_,rfl,PsV.nil _,HW1.out.trans K1.out⟩
end Go.Proofs.YtoaidbhiciaeaaaGreat

end
