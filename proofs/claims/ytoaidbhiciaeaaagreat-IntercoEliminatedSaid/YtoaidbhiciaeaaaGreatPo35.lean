/- Walks and plain facts that the claim rests on (EliP, FndW). No condition. -/
import Derived.Test.YtoaidbhiciaeaaaGreatPo30
import Derived.Deep.RegionHeld3
import Derived.Deep.RegionLaw
import Derived.Deep.CutRange
import Derived.StillTailTactics
set_option linter.unusedSimpArgs false
set_option linter.unusedVariables false
set_option maxHeartbeats 16000000
section
namespace Go.Proofs.YtoaidbhiciaeaaaGreat
open Go.RowKit
noncomputable def datesC (l:List Hol):List Int:=Classical.choose (isDates_ex l)
theorem datesC_is (l:List Hol):IsDates l (datesC l):=Classical.choose_spec (isDates_ex l)
theorem datesC_eq {l:List Hol} {xs:List Int} (h:IsDates l xs):datesC l=xs:=(datesC_is l).eq h
noncomputable def curC (g:Grp) (hs:List Hol) (d en:Int):Ivl × Int:=curR (ivR (g.ents.map Ent.joint) hs (datesC hs) en) d
noncomputable def fullB (g:Grp) (hs:List Hol) (d en:Int):Bool:=(curC g hs d en).2 == 0 && (curC g hs d en).1.mth == 3
def itemAt (items:List Itm) (r:Rf):Itm:=(findI items r).getD Itm.zero
def refOk (acq:Int) (items:List Itm) (d:Int) (r:Rf):Bool:=(findI items r).isSome && (decide ((itemAt items r).date≤d) && (itemAt items r).acc != acq)
structure Eli where
 id:Int
 left:Int
 own:List Itm
noncomputable def eliB (g:Grp) (es:List JV) (hs:List Hol) (items:List Itm) (d:Int) (m:Mt):Bool:=
 (sidesR es m).2.2 == 0 && (m.state == 4 && (fullB g hs d (sidesR es m).1 && (fullB g hs d (sidesR es m).2.1 && (m.left ++ m.right).all (refOk g.rl.r7 items d))))
def eliM (es:List JV) (items:List Itm) (m:Mt):Eli:=⟨m.id,(sidesR es m).1,(m.left ++ m.right).map (itemAt items)⟩
noncomputable def elisR (g:Grp) (es:List JV) (hs:List Hol) (items:List Itm) (d:Int) (ms:List MV):List Eli:=(ms.filter (fun m=>eliB g es hs items d m.x)).map (fun m=>eliM es items m.x)
theorem elisR_snoc (g:Grp) (es:List JV) (hs:List Hol) (items:List Itm) (d:Int) (ms:List MV) (m:MV):elisR g es hs items d (ms ++ [m])=if eliB g es hs items d m.x=true then elisR g es hs items d ms ++ [eliM es items m.x] else elisR g es hs items d ms:=by
 unfold elisR
 rw [List.filter_append,List.map_append]
 by_cases h:eliB g es hs items d m.x=true
 ·rw [if_pos h];simp [h]
 ·rw [if_neg h];simp [h]
def insE (x:Eli):List Eli→List Eli
 | []=>[x]
 | y :: t=>if y.id < x.id then y :: insE x t else x :: y :: t
def sortE (l:List Eli):List Eli:=l.foldr insE []
theorem insE_perm (x:Eli) (l:List Eli):(insE x l).Perm (x :: l):=by
 induction l with
 | nil=>exact List.Perm.refl _
 | cons y t ih=>
  unfold insE
  split
  ·exact (ih.cons y).trans (List.Perm.swap x y t)
  ·exact List.Perm.refl _
theorem sortE_perm (l:List Eli):(sortE l).Perm l:=by
 induction l with
 | nil=>exact List.Perm.refl _
 | cons x t ih=>exact (insE_perm x (sortE t)).trans (ih.cons x)
def EliAsc (l:List Eli):Prop:=l.Pairwise (fun x y=>x.id≤y.id)
theorem insE_asc {x:Eli} {l:List Eli} (h:EliAsc l):EliAsc (insE x l):=by
 induction l with
 | nil=>exact List.pairwise_singleton _ _
 | cons y t ih=>
  unfold EliAsc at h
  rw [List.pairwise_cons] at h
  unfold insE
  split
  ·rename_i hlt
   refine List.pairwise_cons.2 ⟨fun z hz=>?_,ih h.2⟩
   rcases List.mem_cons.1 ((insE_perm x t).mem_iff.1 hz) with e | e
   ·subst e;omega
   ·exact h.1 z e
  ·rename_i hlt
   refine List.pairwise_cons.2 ⟨fun z hz=>?_,List.pairwise_cons.2 h⟩
   rcases List.mem_cons.1 hz with e | e
   ·subst e;omega
   ·have:=h.1 z e;omega
theorem sortE_asc (l:List Eli):EliAsc (sortE l):=by
 induction l with
 | nil=>exact List.Pairwise.nil
 | cons x t ih=>exact insE_asc ih
theorem eli_ext {l m:List Eli} (hp:l.Perm m) (hd:(m.map Eli.id).Nodup) (hl:EliAsc l) (hm:EliAsc m):l=m:=by
 have hd2:(l.map Eli.id).Nodup:=(hp.map _).nodup_iff.2 hd
 have key:∀ {k:List Eli},(k.map Eli.id).Nodup→EliAsc k→k.Pairwise (fun x y=>x.id < y.id):=fun {k} h1 h2=>by
  have h1:k.Pairwise (fun x y=>x.id≠y.id):=List.pairwise_map.1 h1
  exact (List.pairwise_and_iff.2 ⟨h2,h1⟩).imp fun {a b} h=>by omega
 exact List.Perm.eq_of_pairwise (le:=fun a b:Eli=>a.id < b.id) (fun a b _ _ h1 h2=>by omega) (key hd2 hl) (key hd hm) hp
theorem sortE_eq {l ts:List Eli} (hp:ts.Perm l) (hd:(l.map Eli.id).Nodup) (ha:EliAsc ts):ts=sortE l:=
 eli_ext (hp.trans (sortE_perm l).symm) (((sortE_perm l).map _).nodup_iff.2 hd) ha (sortE_asc l)
def accS:List Itm→Int→Int
 | [],_=>0
 | x :: t,c=>(if x.acc=c then x.amt else 0)+accS t c
def totS:List Itm→Int
 | []=>0
 | x :: t=>x.amt+totS t
theorem accS_snoc (l:List Itm) (x:Itm) (c:Int):accS (l ++ [x]) c=accS l c+if x.acc=c then x.amt else 0:=by
 induction l with
 | nil=>simp [accS]
 | cons y t ih=>rw [List.cons_append,accS,ih,accS];omega
theorem totS_snoc (l:List Itm) (x:Itm):totS (l ++ [x])=totS l+x.amt:=by
 induction l with
 | nil=>simp [totS]
 | cons y t ih=>rw [List.cons_append,totS,ih,totS];omega
theorem accS_bd {B:Int} (hB:0≤B):∀ (l:List Itm) (c:Int),(∀ x∈l,-B≤x.amt∧x.amt≤B)→-(B * l.length)≤accS l c∧accS l c≤B * l.length
 | [],c,_=>by simp [accS]
 | x :: t,c,h=>by
  have h1:=accS_bd hB t c (fun y hy=>h y (List.mem_cons_of_mem _ hy))
  have h2:=h x (List.mem_cons_self ..)
  rw [accS,List.length_cons,Int.natCast_add,Int.mul_add]
  split <;> simp <;> omega
theorem totS_bd {B:Int} (hB:0≤B):∀ (l:List Itm),(∀ x∈l,-B≤x.amt∧x.amt≤B)→-(B * l.length)≤totS l∧totS l≤B * l.length
 | [],_=>by simp [totS]
 | x :: t,h=>by
  have h1:=totS_bd hB t (fun y hy=>h y (List.mem_cons_of_mem _ hy))
  have h2:=h x (List.mem_cons_self ..)
  rw [totS,List.length_cons,Int.natCast_add,Int.mul_add]
  simp;omega
def insK (x:Int):List Int→List Int
 | []=>[x]
 | y :: t=>if y < x then y :: insK x t else if y=x then y :: t else x :: y :: t
def keysL (l:List Int):List Int:=l.foldr insK []
theorem insK_mem (x z:Int) (l:List Int):z∈insK x l↔z=x∨z∈l:=by
 induction l with
 | nil=>simp [insK]
 | cons y t ih=>
  unfold insK
  split
  ·rw [List.mem_cons,ih,List.mem_cons]
   constructor
   ·rintro (h | h | h)
    ·exact .inr (.inl h)
    ·exact .inl h
    ·exact .inr (.inr h)
   ·rintro (h | h | h)
    ·exact .inr (.inl h)
    ·exact .inl h
    ·exact .inr (.inr h)
  ·split
   ·rename_i e
    subst e
    rw [List.mem_cons]
    constructor
    ·exact .inr
    ·rintro (h | h)
     ·exact .inl h
     ·exact h
   ·exact List.mem_cons
theorem insK_asc {x:Int} {l:List Int} (h:Asc l):Asc (insK x l):=by
 induction l with
 | nil=>exact List.pairwise_singleton _ _
 | cons y t ih=>
  unfold Asc at h
  rw [List.pairwise_cons] at h
  unfold insK
  split
  ·rename_i hlt
   refine List.pairwise_cons.2 ⟨fun z hz=>?_,ih h.2⟩
   rcases (insK_mem x z t).1 hz with e | e
   ·subst e;omega
   ·exact h.1 z e
  ·split
   ·exact List.pairwise_cons.2 h
   ·refine List.pairwise_cons.2 ⟨fun z hz=>?_,List.pairwise_cons.2 h⟩
    rcases List.mem_cons.1 hz with e | e
    ·subst e;omega
    ·have:=h.1 z e;omega
theorem keysL_asc (l:List Int):Asc (keysL l):=by
 induction l with
 | nil=>exact List.Pairwise.nil
 | cons x t ih=>exact insK_asc ih
theorem keysL_mem (l:List Int) (z:Int):z∈keysL l↔z∈l:=by
 induction l with
 | nil=>simp [keysL]
 | cons x t ih=>rw [List.mem_cons,← ih];exact insK_mem x z (keysL t)
def remA (g:Grp) (a:Int) (own:List Itm):Int:=if own.any (fun i=>decide (a≤i.date)) then g.rl.r13 else g.rl.r6
def sumP (own:List Itm) (acc:Int) (c:Int):Int:=(if c=acc then totS own else 0) - accS own c
def keysP (own:List Itm) (acc:Int):List Int:=keysL (acc :: own.map Itm.acc)
def amtB (n:Int):Bool:=decide (-1000000000000≤n) && decide (n≤1000000000000)
def okPs (own:List Itm) (acc:Int):Bool:=(keysP own acc).all (fun c=>amtB (sumP own acc c))
structure Prt where
 acc:Int
 amt:Int
def Prt.cells (p:Prt):List Value:=[.int .i64 p.acc,.int .i64 p.amt]
theorem Prt.len (p:Prt):p.cells.length=2:=rfl
def partsL (own:List Itm) (acc:Int) (xs:List Int):List Prt:=(xs.map (fun c=>(⟨c,sumP own acc c⟩:Prt))).filter (fun p=>p.amt != 0)
theorem partsL_snoc (own:List Itm) (acc:Int) (xs:List Int) (c:Int):partsL own acc (xs ++ [c])=if sumP own acc c=0 then partsL own acc xs else partsL own acc xs ++ [⟨c,sumP own acc c⟩]:=by
 unfold partsL
 rw [List.map_append,List.filter_append]
 by_cases h:sumP own acc c=0
 ·rw [if_pos h];simp [h]
 ·rw [if_neg h];simp [h]
theorem partsL_le (own:List Itm) (acc:Int) (xs:List Int):(partsL own acc xs).length≤xs.length:=by
 unfold partsL
 refine Nat.le_trans (List.length_filter_le _ _) (by rw [List.length_map];exact Nat.le_refl _)
def partsP (own:List Itm) (acc:Int):List Prt:=partsL own acc (keysP own acc)
structure Pst where
 kind:Int
 ent:Int
 oth:Int
 rul:Int
 parts:List Prt
def pstE (g:Grp) (a:Int) (x:Eli):Pst:=⟨3,x.left,x.id,0,partsP x.own (remA g a x.own)⟩
def okE (g:Grp) (a:Int) (x:Eli):Bool:=okPs x.own (remA g a x.own)
def psts (g:Grp) (a:Int) (ts:List Eli):List Pst:=(ts.map (pstE g a)).filter (fun p=>!p.parts.isEmpty)
theorem psts_snoc (g:Grp) (a:Int) (ts:List Eli) (x:Eli):psts g a (ts ++ [x])=if (pstE g a x).parts=[] then psts g a ts else psts g a ts ++ [pstE g a x]:=by
 unfold psts
 rw [List.map_append,List.filter_append]
 by_cases h:(pstE g a x).parts=[]
 ·rw [if_pos h];simp [h]
 ·rw [if_neg h];simp [h]
def postR (g:Grp) (a:Int) (ts:List Eli):List Pst × Int:=if ts.all (okE g a) then (psts g a ts,0) else ([],2)
noncomputable def elisS (g:Grp) (es:List JV) (hs:List Hol) (ms:List MV) (items:List Itm) (p:Int):List Eli:=sortE (elisR g es hs items (dayB g p) ms)
noncomputable def postsF (g:Grp) (es:List JV) (hs:List Hol) (ms:List MV) (items:List Itm) (p:Int):List Pst × Int:=if errI g es hs ms p=0 then postR g (dayA g p) (elisS g es hs ms items p) else ([],errI g es hs ms p)
end Go.Proofs.YtoaidbhiciaeaaaGreat

end
section
namespace Go.Proofs.YtoaidbhiciaeaaaGreat
open Go.RowKit
set_option maxRecDepth 100000 in
theorem finder_any (bv:List Value) (g:Grp) (es:List JV) (hs:List Hol) (ms:List MV) (items:List Itm) (p:Int) (ao:Option Addr) (cap b o:Nat) (w:World) (H:BkG w bv g es hs ms) (HI:Recs w 7 Itm.cells ao items cap b o) (SM:SmallB g es hs ms items) :
  Calls Tryz.prog 25 #[.agg bv.toArray,.slice ao items.length cap,.int .i64 p] w fun e w'=>∃ v,e=.returned (.tuple #[v,.int .i64 (errI g es hs ms p)])∧Keeps w w'∧(errI g es hs ms p=0→∃ B mb,v=.pointer (some ⟨B,0,none⟩)∧Fin w' B mb bv items (dayA g p) (dayB g p)):=by
 have hmm:=@run_makeMap Tryz.prog
 have hbl:=H.bks.len
 have HBL:=Lib.hid hbl
 obtain ⟨aoC,capC,bC,oC,aoE,capE,bE,oE,hgc,hC,hE⟩:=H.grp
 obtain ⟨aoH,capH,bH,oH,hb23,hH⟩:=H.hol
 have hcapI:=Sl.cap HI
 have hleI:=Sl.le HI
 have hil:=SM.ilen
 have HG:Hid (∀ W,Keeps w W→Calls Tryz.prog 38 #[.agg #[.string g.cur,.int .i64 g.y,.int .i64 g.m,.int .i64 g.n,.slice aoC g.chart.length capC,.int .i64 g.rl.r0,.int .i64 g.rl.r1,.int .i64 g.rl.r2,.int .i64 g.rl.r3,.int .i64 g.rl.r4,.int .i64 g.rl.r5,.int .i64 g.rl.r6,.int .i64 g.rl.r7,.int .i64 g.rl.r8,.int .i64 g.rl.r9,.int .i64 g.rl.r10,.int .i64 g.rl.r11,.int .i64 g.rl.r12,.int .i64 g.rl.r13,.int .i64 g.rl.r14,.slice aoE g.ents.length capE]] W fun r w'=>r=.returned (.bool (grpB g))∧Keeps W w'):=Lib.hid (fun W hk=>grp_any g aoC capC bC oC aoE capE bE oE W (hC.keeps hk) (hE.keeps hk) SM.gok)
 have HH:Hid (∀ W,Keeps w W→Calls Tryz.prog 39 #[.int .i64 (g.ents.length:Int),.slice aoH hs.length capH] W fun r w'=>r=.returned (.bool (hvalidB (g.ents.length:Int) hs))∧Keeps W w'):=Lib.hid (fun W hk=>hvalid_any _ aoH hs capH bH oH W (hH.keeps hk) (by have:=SM.hlen;omega) SM.hok)
 have HA:Hid (∀ W,Keeps w W→Calls Tryz.prog 40 #[.agg bv.toArray] W fun r w'=>r=.returned (.bool (allMB es ms))∧Keeps W w'):=Lib.hid (fun W hk=>allMP_any bv es ms W (H.bks.keeps hk) SM.lines SM.sides SM.ids SM.mlen)
 have HL:Hid (∀ W,Calls Tryz.prog 41 #[.agg #[.int .i64 g.y,.int .i64 g.m,.int .i64 g.n],.int .i64 p] W fun r w'=>r=.returned (.tuple #[.int .i64 (dayB g p),.int .i64 (lasF g.y g.m g.n p).2])∧Keeps W w'):=Lib.hid (fun W=>lasP_any g.y g.m g.n p W)
 have HBG:Hid (∀ W,Calls Tryz.prog 42 #[.agg #[.int .i64 g.y,.int .i64 g.m,.int .i64 g.n],.int .i64 p] W fun r w'=>r=.returned (.tuple #[.int .i64 (dayA g p),.int .i64 (yrF g.y g.m g.n p).2])∧Keeps W w'):=Lib.hid (fun W=>yrP_any g.y g.m g.n p W)
 have HII:=Lib.hid HI
 have HRF:=Lib.hid SM.iref
 have hrg:=box_range w bv 36
 have hk0:Keeps w (w.alloc (.cells bv.toArray 36)):=(Keeps.refl w).alloc _
 obtain ⟨W1,hW1⟩:∃ W1,w.alloc (.cells bv.toArray 36)=W1:=⟨_,rfl⟩
 have hz1:w.heap.size+1=W1.heap.size:=by rw [← hW1];simp
 rw [hW1] at hrg hk0
 have HW1:=Lib.hid hk0
 have HRG:Hid (∀ W,Keeps W1 W→W.rangeAt w.heap.size 0 bv):=Lib.hid (fun W hk=>range_keeps hrg hk)
 have HGG:Hid (∀ W,Keeps W1 W→W.rangeAt w.heap.size 0 (g.cells (.slice aoC g.chart.length capC) (.slice aoE g.ents.length capE))):=Lib.hid (fun W hk j v hv=>range_keeps hrg hk j v (hgc j v hv))
 have HCX:Hid (∀ W,Keeps W1 W→W.cell? ⟨w.heap.size,1,none⟩=some (.int .i64 g.y)∧W.cell? ⟨w.heap.size,2,none⟩=some (.int .i64 g.m)∧W.cell? ⟨w.heap.size,3,none⟩=some (.int .i64 g.n)∧W.cell? ⟨w.heap.size,20,none⟩=some (.slice aoE g.ents.length capE)∧W.cell? ⟨w.heap.size,23,none⟩=some (.slice aoH hs.length capH)):=Lib.hid (fun W hk=>by
  have hr:=range_keeps hrg hk
  have h1:=hr 1 _ (hgc 1 _ rfl)
  have h2:=hr 2 _ (hgc 2 _ rfl)
  have h3:=hr 3 _ (hgc 3 _ rfl)
  have h20:=hr 20 _ (hgc 20 _ rfl)
  have h23:=hr 23 _ hb23
  simp only [Nat.zero_add] at h1 h2 h3 h20 h23
  exact ⟨h1,h2,h3,h20,h23⟩)
 have hbld:=run_finder bv hbl
 clear H hC hE hH HI SM hrg hk0 hgc hb23
 cases h1:grpB g with
 | false=>
  have HE:Hid (errI g es hs ms p=1):=Lib.hid (if_neg (by rw [h1];simp))
  rw [h1] at HG
  clear h1 hbld
  go_enter Tryz.func25,Tryz.ntmps25;go_upto_region 1 with fail;(try rw [hW1]);(try rw [hz1]);clear hW1
  go_wp2_with (first | (refine wpList_load_mid rfl 29 _ rfl w.heap.size 0 rfl (g.cells (.slice aoC g.chart.length capC) (.slice aoE g.ents.length capE)) _ (HGG.out _ (Keeps.refl W1)) Tryz.underlying29 rfl groupSize ?_) | (go_at_call 38;(refine (HG.out _ HW1.out).mono ?_);rintro e1 w1 ⟨rfl,hk1⟩;have K1:Hid (Keeps W1 w1):=Lib.hid hk1;obtain ⟨z1,z2,z3,z20,z23⟩:=HCX.out _ hk1;have hzz:=World.block_lt_of_cell? _ _ z1;clear hk1))
  refine bodyPost_ret (results_tmp2 rfl _ _ _) rfl ?_
  exact ⟨_,by rw [HE.out];rfl,HW1.out.trans K1.out,fun h=>absurd (HE.out.symm.trans h) (by decide)⟩
 | true=>
  rw [h1] at HG
  cases h2:hvalidB (g.ents.length:Int) hs with
  | false=>
   have HE:Hid (errI g es hs ms p=1):=Lib.hid (if_neg (by rw [h2];simp))
   rw [h2] at HH
   clear h1 h2 hbld
   go_enter Tryz.func25,Tryz.ntmps25;go_upto_region 1 with fail;(try rw [hW1]);(try rw [hz1]);clear hW1
   go_wp2_with (first | (refine wpList_load_mid rfl 29 _ rfl w.heap.size 0 rfl (g.cells (.slice aoC g.chart.length capC) (.slice aoE g.ents.length capE)) _ (HGG.out _ (Keeps.refl W1)) Tryz.underlying29 rfl groupSize ?_) | (go_at_call 38;(refine (HG.out _ HW1.out).mono ?_);rintro e1 w1 ⟨rfl,hk1⟩;have K1:Hid (Keeps W1 w1):=Lib.hid hk1;obtain ⟨z1,z2,z3,z20,z23⟩:=HCX.out _ hk1;have hzz:=World.block_lt_of_cell? _ _ z1;clear hk1) | (go_at_call 39;(refine (HH.out _ (HW1.out.trans K1.out)).mono ?_);rintro e2 w2 ⟨rfl,hk2⟩;have K2:Hid (Keeps W1 w2):=Lib.hid (K1.out.trans hk2);clear z1 z2 z3 z20 z23 hzz hk2))
   refine bodyPost_ret (results_tmp2 rfl _ _ _) rfl ?_
   exact ⟨_,by rw [HE.out];rfl,HW1.out.trans K2.out,fun h=>absurd (HE.out.symm.trans h) (by decide)⟩
  | true=>
   rw [h2] at HH
   cases h3:allMB es ms with
   | false=>
    have HE:Hid (errI g es hs ms p=1):=Lib.hid (if_neg (by rw [h3];simp))
    rw [h3] at HA
    clear h1 h2 h3 hbld
    go_enter Tryz.func25,Tryz.ntmps25;go_upto_region 1 with fail;(try rw [hW1]);(try rw [hz1]);clear hW1
    go_wp2_with (first | (refine wpList_load_mid rfl 29 _ rfl w.heap.size 0 rfl (g.cells (.slice aoC g.chart.length capC) (.slice aoE g.ents.length capE)) _ (HGG.out _ (Keeps.refl W1)) Tryz.underlying29 rfl groupSize ?_) | (go_at_call 38;(refine (HG.out _ HW1.out).mono ?_);rintro e1 w1 ⟨rfl,hk1⟩;have K1:Hid (Keeps W1 w1):=Lib.hid hk1;obtain ⟨z1,z2,z3,z20,z23⟩:=HCX.out _ hk1;have hzz:=World.block_lt_of_cell? _ _ z1;clear hk1) | (go_at_call 39;(refine (HH.out _ (HW1.out.trans K1.out)).mono ?_);rintro e2 w2 ⟨rfl,hk2⟩;have K2:Hid (Keeps W1 w2):=Lib.hid (K1.out.trans hk2);clear z1 z2 z3 z20 z23 hzz hk2) | (refine wpList_rowG 36 _ rfl rfl w.heap.size bv _ rfl (HRG.out _ (K2.out)) Tryz.underlying36 rfl (by rw [HBL.out];exact booksSize) ?_) | (go_at_call 40;(refine (HA.out _ (HW1.out.trans K2.out)).mono ?_);rintro e3 w3 ⟨rfl,hk3⟩;have K3:Hid (Keeps W1 w3):=Lib.hid (K2.out.trans hk3);obtain ⟨z1,z2,z3,z20,z23⟩:=HCX.out _ K3.out;have hzz:=World.block_lt_of_cell? _ _ z1;clear hk3))
    refine bodyPost_ret (results_tmp2 rfl _ _ _) rfl ?_
    exact ⟨_,by rw [HE.out];rfl,HW1.out.trans K3.out,fun h=>absurd (HE.out.symm.trans h) (by decide)⟩
   | true=>
    rw [h3] at HA
    have hee:errI g es hs ms p=chkF g.y g.m g.n p:=by rw [chk_grp h1];exact if_pos ⟨h1,h2,h3⟩
    by_cases hp:p < 0∨g.n≤p
    ·have hc:chkF g.y g.m g.n p=2:=by rw [chk_grp h1,if_pos hp]
     have HE:Hid (errI g es hs ms p=2):=Lib.hid (hee.trans hc)
     have hl2:(lasF g.y g.m g.n p).2=2:=by unfold lasF;rw [hc];rfl
     rw [hl2] at HL
     obtain ⟨A,hA⟩:∃ A,dayB g p=A:=⟨_,rfl⟩
     rw [hA] at HL
     clear h1 h2 h3 hbld hee hp hc hl2 hA
     go_enter Tryz.func25,Tryz.ntmps25;go_upto_region 1 with fail;(try rw [hW1]);(try rw [hz1]);clear hW1
     go_wp2_with (first | (refine wpList_load_mid rfl 29 _ rfl w.heap.size 0 rfl (g.cells (.slice aoC g.chart.length capC) (.slice aoE g.ents.length capE)) _ (HGG.out _ (Keeps.refl W1)) Tryz.underlying29 rfl groupSize ?_) | (go_at_call 38;(refine (HG.out _ HW1.out).mono ?_);rintro e1 w1 ⟨rfl,hk1⟩;have K1:Hid (Keeps W1 w1):=Lib.hid hk1;obtain ⟨z1,z2,z3,z20,z23⟩:=HCX.out _ hk1;have hzz:=World.block_lt_of_cell? _ _ z1;clear hk1) | (go_at_call 39;(refine (HH.out _ (HW1.out.trans K1.out)).mono ?_);rintro e2 w2 ⟨rfl,hk2⟩;have K2:Hid (Keeps W1 w2):=Lib.hid (K1.out.trans hk2);clear z1 z2 z3 z20 z23 hzz hk2) | (refine wpList_rowG 36 _ rfl rfl w.heap.size bv _ rfl (HRG.out _ (K2.out)) Tryz.underlying36 rfl (by rw [HBL.out];exact booksSize) ?_) | (go_at_call 40;(refine (HA.out _ (HW1.out.trans K2.out)).mono ?_);rintro e3 w3 ⟨rfl,hk3⟩;have K3:Hid (Keeps W1 w3):=Lib.hid (K2.out.trans hk3);obtain ⟨z1,z2,z3,z20,z23⟩:=HCX.out _ K3.out;have hzz:=World.block_lt_of_cell? _ _ z1;clear hk3) | (go_at_call 41;(refine (HL.out _).mono ?_);rintro e4 w4 ⟨rfl,hk4⟩;have K4:Hid (Keeps W1 w4):=Lib.hid (K3.out.trans hk4);clear z1 z2 z3 z20 z23 hzz;obtain ⟨z1,z2,z3,z20,z23⟩:=HCX.out _ K4.out;have hzz:=World.block_lt_of_cell? _ _ z1;clear hk4))
     refine bodyPost_ret (results_tmp2 rfl _ _ _) rfl ?_
     exact ⟨_,by rw [HE.out];rfl,HW1.out.trans K4.out,fun h=>absurd (HE.out.symm.trans h) (by decide)⟩
    ·have hc:chkF g.y g.m g.n p=0:=by rw [chk_grp h1,if_neg hp]
     have HE:Hid (errI g es hs ms p=0):=Lib.hid (hee.trans hc)
     have hl2:(lasF g.y g.m g.n p).2=0:=by unfold lasF;rw [hc];rfl
     have hy2:(yrF g.y g.m g.n p).2=0:=by unfold yrF;rw [hc];rfl
     rw [hl2] at HL
     rw [hy2] at HBG
     obtain ⟨A,hA⟩:∃ A,dayB g p=A:=⟨_,rfl⟩
     obtain ⟨A0,hA0⟩:∃ A,dayA g p=A:=⟨_,rfl⟩
     rw [hA] at HL ⊢
     rw [hA0] at HBG ⊢
     clear h1 h2 h3 hee hp hc hl2 hy2 hA hA0
     go_enter Tryz.func25,Tryz.ntmps25;go_upto_region 1 with fail;(try rw [hW1]);(try rw [hz1]);clear hW1
     go_wp2_with (first | (refine wpList_load_mid rfl 29 _ rfl w.heap.size 0 rfl (g.cells (.slice aoC g.chart.length capC) (.slice aoE g.ents.length capE)) _ (HGG.out _ (Keeps.refl W1)) Tryz.underlying29 rfl groupSize ?_) | (go_at_call 38;(refine (HG.out _ HW1.out).mono ?_);rintro e1 w1 ⟨rfl,hk1⟩;have K1:Hid (Keeps W1 w1):=Lib.hid hk1;obtain ⟨z1,z2,z3,z20,z23⟩:=HCX.out _ hk1;have hzz:=World.block_lt_of_cell? _ _ z1;clear hk1) | (go_at_call 39;(refine (HH.out _ (HW1.out.trans K1.out)).mono ?_);rintro e2 w2 ⟨rfl,hk2⟩;have K2:Hid (Keeps W1 w2):=Lib.hid (K1.out.trans hk2);clear z1 z2 z3 z20 z23 hzz hk2) | (refine wpList_rowG 36 _ rfl rfl w.heap.size bv _ rfl (HRG.out _ (K2.out)) Tryz.underlying36 rfl (by rw [HBL.out];exact booksSize) ?_) | (go_at_call 40;(refine (HA.out _ (HW1.out.trans K2.out)).mono ?_);rintro e3 w3 ⟨rfl,hk3⟩;have K3:Hid (Keeps W1 w3):=Lib.hid (K2.out.trans hk3);obtain ⟨z1,z2,z3,z20,z23⟩:=HCX.out _ K3.out;have hzz:=World.block_lt_of_cell? _ _ z1;clear hk3) | (go_at_call 41;(refine (HL.out _).mono ?_);rintro e4 w4 ⟨rfl,hk4⟩;have K4:Hid (Keeps W1 w4):=Lib.hid (K3.out.trans hk4);clear z1 z2 z3 z20 z23 hzz;obtain ⟨z1,z2,z3,z20,z23⟩:=HCX.out _ K4.out;have hzz:=World.block_lt_of_cell? _ _ z1;clear hk4) | (go_at_call 42;(refine (HBG.out _).mono ?_);rintro e5 w5 ⟨rfl,hk5⟩;have K5:Hid (Keeps W1 w5):=Lib.hid (K4.out.trans hk5);clear z1 z2 z3 z20 z23 hzz hk5) | (refine wpList_rowG 36 _ rfl rfl w.heap.size bv _ rfl (HRG.out _ (K5.out)) Tryz.underlying36 rfl (by rw [HBL.out];exact booksSize) ?_) | (refine wpList_bfin rfl _ _ _ _ rfl bv HBL.out w5.heap.size A0 A rfl rfl rfl rfl ?_))
     obtain ⟨w6,hw6⟩:∃ w6,(w5.alloc (.map #[] 0)).alloc (.cells (finC bv w5.heap.size A0 A).toArray 110)=w6:=⟨_,rfl⟩
     have HK6:Hid (Keeps W1 w6):=Lib.hid (by rw [← hw6];exact (K5.out.alloc _).alloc _)
     have HM6:Hid (VMap refK w6 w5.heap.size 0 (itemsM [])):=Lib.hid (by rw [← hw6];exact (VMap.made refK w5).alloc _)
     have HF6:Hid (w6.rangeAt (w5.heap.size+1) 0 (finC bv w5.heap.size A0 A)):=Lib.hid (by
      rw [← hw6]
      have:=box_range (w5.alloc (.map #[] 0)) (finC bv w5.heap.size A0 A) 110
      rw [World.size_alloc] at this
      exact this)
     have hz6:w5.heap.size+1 < w6.heap.size:=by rw [← hw6];simp
     rw [hw6]
     clear hw6
     go_loopw [62] (fun vi wr=>∃ k:Nat,k≤items.length∧vi=.int .i64 k∧Hid (Keeps W1 wr∧w6.grownBy wr (some w5.heap.size)∧VMap refK wr w5.heap.size k (itemsM (items.take k)))) (fun vi _=>items.length - (intOf vi).toNat)
     case atStart=>exact ⟨0,Nat.zero_le _,rfl,Lib.hid ⟨HK6.out,World.grownBy.refl _ _,by rw [List.take_zero];exact HM6.out⟩⟩
     case round=>
      obtain ⟨k,hk,rfl,HW⟩:=hrel
      have hfr:wr.rangeAt (w5.heap.size+1) 0 (finC bv w5.heap.size A0 A):=fun j v hv=>HW.out.2.1.cell (HF6.out j v hv) (by intro e;simp at e)
      by_cases hlt:k < items.length
      ·have hr:=HII.out.keeps (HW1.out.trans HW.out.1)
       have hix:=Sl.at hr Tryz.underlying37 Tryz.sizeOf53 k hlt
       obtain ⟨x,hx⟩:∃ x,items[k]=x:=⟨_,rfl⟩
       have c0:=hr.cell Itm.len k hlt 0 (.int .i64 x.ref.e) (by rw [hx];rfl)
       have c1:=hr.cell Itm.len k hlt 1 (.int .i64 x.ref.l) (by rw [hx];rfl)
       have c2:=hr.cell Itm.len k hlt 2 (.int .i64 x.ent) (by rw [hx];rfl)
       have c3:=hr.cell Itm.len k hlt 3 (.int .i64 x.acc) (by rw [hx];rfl)
       have c4:=hr.cell Itm.len k hlt 4 (.int .i64 x.ptn) (by rw [hx];rfl)
       have c5:=hr.cell Itm.len k hlt 5 (.int .i64 x.date) (by rw [hx];rfl)
       have c6:=hr.cell Itm.len k hlt 6 (.int .i64 x.amt) (by rw [hx];rfl)
       rw [Nat.add_zero] at c0
       have HRO:Hid x.ref.Ok:=Lib.hid (by rw [← hx];exact HRF.out _ (List.getElem_mem ..))
       have HTK:Hid (items.take (k+1)=items.take k ++ [x]):=Lib.hid (by rw [take_snoc _ _ hlt,hx])
       have hzr:=World.block_lt_of_cell? _ _ c0
       have f27:wr.cell? ⟨w5.heap.size+1,27,none⟩=some (.map (some w5.heap.size)):=by
        have:=hfr 27 (.map (some w5.heap.size)) (by unfold finC;rw [List.getElem?_append_right (by rw [HBL.out];exact Nat.le_refl _),HBL.out];rfl)
        rwa [Nat.zero_add] at this
       have hzf:=World.block_lt_of_cell? _ _ f27
       clear hr hx hfr
       have hzi:(Tryz.prog.info? 53).map (·.zero)=some (some Itm.zero.val):=by kernel_rfl
       have hzv:∀ w,(zeroValue 53).run Tryz.prog w=.ok Itm.zero.val w:=fun w=>Tryz.zeroValue53 w
       have HLK:Hid (∀ W,Keeps (wr.alloc (.cells #[.int .i64 x.ref.e,.int .i64 x.ref.l,.int .i64 x.ent,.int .i64 x.acc,.int .i64 x.ptn,.int .i64 x.date,.int .i64 x.amt] 53)) W→(Instr.lookup 108 (.map (some w5.heap.size)) (.agg #[.int .i64 x.ref.e,.int .i64 x.ref.l]) true).run Tryz.prog W=.ok (.tuple #[((findI (items.take k) x.ref).getD Itm.zero).val,.bool (findI (items.take k) x.ref).isSome]) W):=Lib.hid (fun W hW=>by
        have:=((HW.out.2.2.alloc (.cells #[.int .i64 x.ref.e,.int .i64 x.ref.l,.int .i64 x.ent,.int .i64 x.acc,.int .i64 x.ptn,.int .i64 x.date,.int .i64 x.amt] 53)).keeps hW).lookOk Tryz.underlying108 hzv (a:=x.ref) HRO.out _ rfl
        have h2:(itemsM (items.take k) x.ref).getD Itm.zero.val=((findI (items.take k) x.ref).getD Itm.zero).val:=by unfold itemsM;cases findI (items.take k) x.ref <;> rfl
        have h3:(itemsM (items.take k) x.ref).isSome=(findI (items.take k) x.ref).isSome:=by unfold itemsM;cases findI (items.take k) x.ref <;> rfl
        rw [h2,h3] at this
        exact this)
       clear hzi hzv
       obtain ⟨y,hy⟩:∃ y,(findI (items.take k) x.ref).getD Itm.zero=y:=⟨_,rfl⟩
       obtain ⟨q,hq⟩:∃ q,(findI (items.take k) x.ref).isSome=q:=⟨_,rfl⟩
       rw [hy,hq] at HLK
       unfold Itm.val at HLK
       have HQ:=Lib.hid hq
       clear hy hq
       have i27:(wr.alloc (.cells #[.int .i64 x.ref.e,.int .i64 x.ref.l,.int .i64 x.ent,.int .i64 x.acc,.int .i64 x.ptn,.int .i64 x.date,.int .i64 x.amt] 53)).cell? ⟨w5.heap.size+1,27,none⟩=some (.map (some w5.heap.size)):=by go_simp
       have i0:(wr.alloc (.cells #[.int .i64 x.ref.e,.int .i64 x.ref.l,.int .i64 x.ent,.int .i64 x.acc,.int .i64 x.ptn,.int .i64 x.date,.int .i64 x.amt] 53)).cell? ⟨wr.heap.size,0,none⟩=some (.int .i64 x.ref.e):=by go_simp
       have i1:(wr.alloc (.cells #[.int .i64 x.ref.e,.int .i64 x.ref.l,.int .i64 x.ent,.int .i64 x.acc,.int .i64 x.ptn,.int .i64 x.date,.int .i64 x.amt] 53)).cell? ⟨wr.heap.size,1,none⟩=some (.int .i64 x.ref.l):=by go_simp
       have hi2:(wr.alloc (.cells #[.int .i64 x.ref.e,.int .i64 x.ref.l,.int .i64 x.ent,.int .i64 x.acc,.int .i64 x.ptn,.int .i64 x.date,.int .i64 x.amt] 53)).cell? ⟨wr.heap.size,2,none⟩=some (.int .i64 x.ent)∧(wr.alloc (.cells #[.int .i64 x.ref.e,.int .i64 x.ref.l,.int .i64 x.ent,.int .i64 x.acc,.int .i64 x.ptn,.int .i64 x.date,.int .i64 x.amt] 53)).cell? ⟨wr.heap.size,3,none⟩=some (.int .i64 x.acc)∧(wr.alloc (.cells #[.int .i64 x.ref.e,.int .i64 x.ref.l,.int .i64 x.ent,.int .i64 x.acc,.int .i64 x.ptn,.int .i64 x.date,.int .i64 x.amt] 53)).cell? ⟨wr.heap.size,4,none⟩=some (.int .i64 x.ptn)∧(wr.alloc (.cells #[.int .i64 x.ref.e,.int .i64 x.ref.l,.int .i64 x.ent,.int .i64 x.acc,.int .i64 x.ptn,.int .i64 x.date,.int .i64 x.amt] 53)).cell? ⟨wr.heap.size,5,none⟩=some (.int .i64 x.date)∧(wr.alloc (.cells #[.int .i64 x.ref.e,.int .i64 x.ref.l,.int .i64 x.ent,.int .i64 x.acc,.int .i64 x.ptn,.int .i64 x.date,.int .i64 x.amt] 53)).cell? ⟨wr.heap.size,6,none⟩=some (.int .i64 x.amt):=⟨by go_simp,by go_simp,by go_simp,by go_simp,by go_simp⟩
       go_upto_region 11 with fail
       obtain ⟨wi,hwi⟩:∃ wi,wr.alloc (.cells #[.int .i64 x.ref.e,.int .i64 x.ref.l,.int .i64 x.ent,.int .i64 x.acc,.int .i64 x.ptn,.int .i64 x.date,.int .i64 x.amt] 53)=wi:=⟨_,rfl⟩
       have hiz:wr.heap.size < wi.heap.size:=by rw [← hwi];simp
       rw [hwi] at HLK i27 i0 i1 hi2 ⊢
       have KS:∀ W,Keeps wi W→(Instr.lookup 108 (.map (some w5.heap.size)) (.agg #[.int .i64 x.ref.e,.int .i64 x.ref.l]) true).run Tryz.prog W=.ok (.tuple #[.agg #[.int .i64 y.ref.e,.int .i64 y.ref.l,.int .i64 y.ent,.int .i64 y.acc,.int .i64 y.ptn,.int .i64 y.date,.int .i64 y.amt],.bool q]) W∧Keeps wi W∧W.cell? ⟨w5.heap.size+1,27,none⟩=some (.map (some w5.heap.size))∧W.cell? ⟨wr.heap.size,0,none⟩=some (.int .i64 x.ref.e)∧W.cell? ⟨wr.heap.size,1,none⟩=some (.int .i64 x.ref.l):=fun W hW=>⟨HLK.out W hW,hW,hW.cell i27,hW.cell i0,hW.cell i1⟩
       have HKS:=Lib.hid KS
       clear KS
       have HI2:=Lib.hid hi2
       have HKI:Hid (Keeps W1 wi∧w6.grownBy wi (some w5.heap.size)∧VMap refK wi w5.heap.size k (itemsM (items.take k))):=Lib.hid (by rw [← hwi];exact ⟨HW.out.1.alloc _,HW.out.2.1.trans (World.grownBy_alloc _ _ _),HW.out.2.2.alloc _⟩)
       clear hi2 hwi c0 c1 c2 c3 c4 c5 c6 f27
       go_cut [15,16] from 66 to 75 (fun v15 v16 wx=>v15=.pointer (some ⟨wi.heap.size,0,none⟩)∧v16=.bool q∧Hid (wx=(wi.alloc (.cells #[.int .i64 y.ref.e,.int .i64 y.ref.l,.int .i64 y.ent,.int .i64 y.acc,.int .i64 y.ptn,.int .i64 y.date,.int .i64 y.amt] 53)).drew))
       case first=>
        go_region_held3 (fun W=>(Instr.lookup 108 (.map (some w5.heap.size)) (.agg #[.int .i64 x.ref.e,.int .i64 x.ref.l]) true).run Tryz.prog W=.ok (.tuple #[.agg #[.int .i64 y.ref.e,.int .i64 y.ref.l,.int .i64 y.ent,.int .i64 y.acc,.int .i64 y.ptn,.int .i64 y.date,.int .i64 y.amt],.bool q]) W∧Keeps wi W∧W.cell? ⟨w5.heap.size+1,27,none⟩=some (.map (some w5.heap.size))∧W.cell? ⟨wr.heap.size,0,none⟩=some (.int .i64 x.ref.e)∧W.cell? ⟨wr.heap.size,1,none⟩=some (.int .i64 x.ref.l))
         (first | exact HKS.out _ (Keeps.refl _).drew | exact HKS.out _ ((Keeps.refl _).alloc _).drew | exact HKS.out _ ((Keeps.refl _).alloc _))
         (fail)
        all_goals (go_wp2_with fail;go_meet;exact ⟨rfl,rfl,Lib.hid rfl⟩)
       case rest=>
        obtain ⟨rfl,rfl,HC⟩:=hcut
        have HKC:Hid (Keeps wi wc):=Lib.hid (by rw [HC.out];exact ((Keeps.refl wi).alloc _).drew)
        clear HC
        cases q with
        | true=>
         have HIM:Hid (itemsM (items.take (k+1))=itemsM (items.take k)):=Lib.hid (by
          obtain ⟨z,hz⟩:=Option.isSome_iff_exists.1 HQ.out
          rw [HTK.out];exact itemsM_old hz)
         have HX:Hid (Keeps W1 wc∧w6.grownBy wc (some w5.heap.size)∧VMap refK wc w5.heap.size (k+1) (itemsM (items.take (k+1)))):=Lib.hid ⟨HKI.out.1.trans HKC.out,HKI.out.2.1.trans (keeps_grown HKC.out _),by rw [HIM.out];exact (HKI.out.2.2.keeps HKC.out).mono (Nat.le_succ _)⟩
         go_wp2_with fail
         go_roundw
         case rel=>exact ⟨k+1,by omega,by go_num,HX⟩
         case measure=>simp [intOf];omega
        | false=>
         have HNF:Hid (findI (items.take k) x.ref=none):=Lib.hid (by
          cases h:findI (items.take k) x.ref with
          | none=>rfl
          | some z=>have:=HQ.out;rw [h] at this;cases this)
         have j27:=HKC.out.cell i27
         have j0:=HKC.out.cell i0
         have j1:=HKC.out.cell i1
         have j2:=HKC.out.cell HI2.out.1
         have j3:=HKC.out.cell HI2.out.2.1
         have j4:=HKC.out.cell HI2.out.2.2.1
         have j5:=HKC.out.cell HI2.out.2.2.2.1
         have j6:=HKC.out.cell HI2.out.2.2.2.2
         have HMC:=Lib.hid ((HKI.out.2.2.keeps HKC.out).drewN 1)
         go_wp2_with fail
         go_still_tail 7,(by kernel_rfl)
         change wpList _ _ _ _ _ wc.drew
         go_wp2_with (refine wpList_vstore (K:=refK) rfl _ _ _ 108 rfl Tryz.underlying108 w5.heap.size k rfl HMC.out (by unfold maxLen;omega) x.ref HRO.out rfl x.val rfl (itemsM (items.take (k+1))) (by rw [HTK.out];exact (itemsM_new HNF.out).1) (fun d _ hd=>by rw [HTK.out];exact (itemsM_new HNF.out).2 d hd) ?_;intro w9 hm9 hg9;have HX:Hid (Keeps W1 w9∧w6.grownBy w9 (some w5.heap.size)∧VMap refK w9 w5.heap.size (k+1) (itemsM (items.take (k+1)))):=Lib.hid ⟨Below.grown (HKI.out.1.trans HKC.out).drew hg9 (HKI.out.1.trans HKC.out).drew.size (fun q hq=>by cases hq;exact K5.out.size),(HKI.out.2.1.trans (keeps_grown HKC.out.drew _)).trans hg9,hm9⟩;clear hm9 hg9)
         go_roundw
         case rel=>exact ⟨k+1,by omega,by go_num,HX⟩
         case measure=>simp [intOf];omega
      ·have HFN:Hid (Fin wr (w5.heap.size+1) w5.heap.size bv items A0 A):=Lib.hid ⟨hfr,k,by omega,by have:=HW.out.2.2;rwa [List.take_of_length_le (by omega)] at this⟩
       go_wp2_with fail
       refine bodyPost_ret (results_tmp2 rfl _ _ _) rfl ?_
       exact ⟨_,by rw [HE.out];rfl,HW1.out.trans HW.out.1,fun _=>⟨_,_,rfl,HFN.out⟩⟩
end Go.Proofs.YtoaidbhiciaeaaaGreat

end
