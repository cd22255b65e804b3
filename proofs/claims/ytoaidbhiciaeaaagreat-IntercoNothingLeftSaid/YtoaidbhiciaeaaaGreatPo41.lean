/- Walks and plain facts that the claim rests on (EliS, IcoL, IcA, IcS). No condition. -/
import Derived.Test.YtoaidbhiciaeaaaGreatPo35
import Derived.Test.YtoaidbhiciaeaaaGreatPo36
import Derived.Test.YtoaidbhiciaeaaaGreatPo40
import Derived.Shelf.SlSortCmp.NoneTotal
import Derived.Test.YtoaidbhiciaeaaaGreatPo39
import Derived.Test.YtoaidbhiciaeaaaGreatPo37
set_option linter.unusedSimpArgs false
set_option linter.unusedVariables false
set_option maxHeartbeats 16000000
section
namespace Go.Proofs.YtoaidbhiciaeaaaGreat
open Go.RowKit Go.Shelf Go.Lib Go.Sort Go.Maps
structure EV where
 x:Eli
 a:Option Addr
 c:Nat
 b:Nat
instance:Inhabited EV:=⟨⟨⟨0,0,[]⟩,none,0,0⟩⟩
def EV.cells (e:EV):List Value:=[.int .i64 e.x.id,.int .i64 e.x.left,.slice e.a e.x.own.length e.c]
theorem EV.len (e:EV):e.cells.length=3:=rfl
theorem EV.one (e:EV):∀ v∈e.cells,v.oneCell'=true:=by
 intro v hv
 simp only [EV.cells,List.mem_cons,List.not_mem_nil,or_false] at hv
 rcases hv with rfl | rfl | rfl <;> rfl
def eliD:NestD EV Itm:=⟨7,Itm.cells,fun e=>e.x.own,EV.a,EV.c,EV.b⟩
def cmpI (x y:Int):Int:=if x < y then -1 else if y < x then 1 else 0
theorem cmpI_neg {x y:Int}:cmpI x y < 0↔x < y:=by unfold cmpI;split <;> (try split) <;> omega
def cfE (x y:EV):Int:=cmpI x.x.id y.x.id
theorem isnan_any (x:Int) (w:World):Calls Tryz.prog 80 #[.int .i64 x] w fun e w'=>e=.returned (.bool false)∧w=w':=by
 have h:(x != x)=false:=by simp
 go_enter Tryz.func80,Tryz.ntmps80
 go_wp2
 go_ret
 exact ⟨rfl,rfl⟩
theorem compare_any (x y:Int) (w:World):Calls Tryz.prog 46 #[.int .i64 x,.int .i64 y] w fun e w'=>e=.returned (.int .i64 (cmpI x y))∧w=w':=by
 by_cases h1:x < y
 ·go_enter Tryz.func46,Tryz.ntmps46
  go_wp2_with (go_at_call 80;refine (isnan_any _ _).mono ?_;rintro e w' ⟨rfl,rfl⟩)
  go_ret
  exact ⟨ret1 (by rw [cmpI,if_pos h1]),rfl⟩
 ·by_cases h2:y < x
  ·go_enter Tryz.func46,Tryz.ntmps46
   go_wp2_with (go_at_call 80;refine (isnan_any _ _).mono ?_;rintro e w' ⟨rfl,rfl⟩)
   go_ret
   exact ⟨ret1 (by rw [cmpI,if_neg (by omega),if_pos h2]),rfl⟩
  ·go_enter Tryz.func46,Tryz.ntmps46
   go_wp2_with (go_at_call 80;refine (isnan_any _ _).mono ?_;rintro e w' ⟨rfl,rfl⟩)
   go_ret
   exact ⟨ret1 (by rw [cmpI,if_neg (by omega),if_neg (by omega)]),rfl⟩
def GrownR (a b:World):Prop:=∃ q os,b=Go.Sort.grow (a.drewN q) os
theorem GrownR.drew (a:World):GrownR a a.drew:=⟨1,#[],by rw [Go.Sort.grow_empty];rfl⟩
theorem GrownR.alloc (a:World) (o:Obj):GrownR a (a.alloc o):=⟨0,#[o],by simp only [Go.Sort.grow,Array.append_singleton];rfl⟩
theorem GrownR.trans {a b c:World} (h:GrownR a b) (k:GrownR b c):GrownR a c:=by
 obtain ⟨q,os,rfl⟩:=h
 obtain ⟨q2,os2,rfl⟩:=k
 refine ⟨q+q2,os ++ os2,?_⟩
 rw [← Go.Sort.grow_grow]
 simp [Go.Sort.grow,World.drewN,Nat.add_assoc]
theorem eliCmp_any (x y:EV) (w:World) :
  Calls Tryz.prog 45 #[.agg #[.int .i64 x.x.id,.int .i64 x.x.left,.slice x.a x.x.own.length x.c],.agg #[.int .i64 y.x.id,.int .i64 y.x.left,.slice y.a y.x.own.length y.c]] w
   fun e w'=>e=.returned (.int .i64 (cfE x y))∧GrownR w w':=by
 obtain ⟨z,hz⟩:∃ z,cfE x y=z:=⟨_,rfl⟩
 have HC:Hid (∀ W,Calls Tryz.prog 46 #[.int .i64 x.x.id,.int .i64 y.x.id] W fun e w'=>e=.returned (.int .i64 z)∧W=w'):=Lib.hid (fun W=>by rw [← hz];exact compare_any _ _ _)
 have HZ:=Lib.hid hz
 clear hz
 go_enter Tryz.func45,Tryz.ntmps45
 go_wp2_with (go_at_call 46;refine (HC.out _).mono ?_;rintro e w2 ⟨rfl,rfl⟩)
 go_ret
 exact ⟨by rw [HZ.out];rfl,(by first | exact GrownR.refl _ | exact (GrownR.alloc _ _).trans (GrownR.alloc _ _))⟩
theorem ltOf_el (x y:EV):ltOf cfE x y=decide (x.x.id < y.x.id):=by unfold ltOf cfE;exact decide_eq_decide.2 cmpI_neg
theorem swo_el:SWO (ltOf cfE) where
 irrefl x:=by rw [ltOf_el];exact decide_eq_false (by omega)
 trans x y z h1 h2:=by rw [ltOf_el] at *;have:=of_decide_eq_true h1;have:=of_decide_eq_true h2;exact decide_eq_true (by omega)
 ntrans x y z h1 h2:=by rw [ltOf_el] at *;have:=of_decide_eq_false h1;have:=of_decide_eq_false h2;exact decide_eq_false (by omega)
theorem cmpLays_el (blk off size:Nat) (w:World):CmpLays Tryz.prog 45 #[] EV.cells 3 cfE blk off size w:=fun _ _ _ _ x y=>eliCmp_any x y _
theorem flatE_get (d:Array EV) (t:Nat):(flatK EV.cells 3 d).toList[t]?=(d.toList.flatMap EV.cells)[t]?:=by
 by_cases ht:t < d.size * 3
 ·have h2:=flat_get EV.len d.toList (t / 3) (t % 3) (by rw [Array.length_toList];omega) (by omega)
  rw [show t / 3 * 3+t % 3=t from by omega] at h2
  rw [h2]
  have h3:(flatK EV.cells 3 d)[t]! = (EV.cells d[t / 3]!)[t % 3]!:=get_flatK _ _ _ _ ht
  rw [Array.getElem?_toList,Array.getElem?_eq_getElem (by rw [size_flatK];exact ht)]
  rw [getElem!_pos _ t (by rw [size_flatK];exact ht)] at h3
  rw [h3,getElem!_pos d (t / 3) (by omega),Array.getElem_toList]
  rcases (show t % 3=0∨t % 3=1∨t % 3=2 by omega) with h | h | h <;> rw [h] <;> rfl
 ·rw [List.getElem?_eq_none (by rw [Array.length_toList,size_flatK];omega),List.getElem?_eq_none (by rw [flat_length EV.len,Array.length_toList];omega)]
theorem flatE_list (d:Array EV):(flatK EV.cells 3 d).toList=d.toList.flatMap EV.cells:=List.ext_getElem? (flatE_get d)
theorem holdsE_own {w:World} {base e n g cap:Nat} {ss:List EV} (H:w.ownsRow base e 3 (.slice (some ⟨g,0,none⟩) n cap) n (ss.flatMap EV.cells)) (hn:ss.length=n):HoldsK EV.cells 3 w g 0 ss.toArray:=by
 intro j hj
 have hj2:j < n * 3:=by rw [size_flatK,List.size_toArray] at hj;omega
 refine ⟨?_,?_⟩
 ·rw [Nat.zero_add,H.cellAt j hj2]
  have:=flatE_get ss.toArray j
  rw [Array.getElem?_toList,Array.getElem?_eq_getElem hj] at this
  rw [← this,getElem!_pos _ j hj]
  rfl
 ·rw [Nat.zero_add];exact H.frozenAt j
theorem own_sortE {w:World} {base e n g cap m:Nat} {os:Array Obj} {xs:List Value} (H:w.ownsRow base e 3 (.slice (some ⟨g,0,none⟩) n cap) n xs) (F:Array Value) (hF:F.size=n * 3) :
  (grow (putRow id (Sort.ahead w m) g 0 F) os).ownsRow base e 3 (.slice (some ⟨g,0,none⟩) n cap) n F.toList∧w.grownBy (grow (putRow id (Sort.ahead w m) g 0 F) os) (some g):=by
 rcases H.2 with ⟨h',_⟩ | ⟨g',cap',cur,h',hb,hgb,hn,hm,hs,ht⟩
 ·simp at h'
 ·simp only [Value.slice.injEq,Option.some.injEq,Addr.mk.injEq,and_true,true_and] at h'
  obtain ⟨rfl,rfl⟩:=h'
  have hg:g < w.heap.size:=(Array.getElem?_eq_some_iff.1 hgb).1
  have hheap:(grow (putRow id (Sort.ahead w m) g 0 F) os).heap[g]?=some (.cells (putCells id 0 F cur) e (0,0)):=by
   rw [heap_grow_old _ _ (by simpa using hg)]
   simp [putRow,mapBlock,Sort.ahead,Array.getElem?_modify,hgb,onCells]
  refine ⟨⟨by rw [Array.length_toList,hF],.inr ⟨g,cap,_,rfl,hb,hheap,hn,hm,by simp [putCells,hs],?_⟩⟩,rfl,rfl,rfl,by simp,fun k hk hne=>?_⟩
  ·apply List.ext_getElem?
   intro j
   have hcs:n * 3≤cur.size:=by rw [hs];exact Nat.mul_le_mul_right _ hn
   by_cases hj:j < n * 3
   ·rw [List.getElem?_take_of_lt hj,Array.getElem?_toList,Array.getElem?_toList]
    simp [putCells,hj,show j < cur.size by omega,hF]
   ·rw [List.getElem?_take_eq_none (by omega),List.getElem?_eq_none (by rw [Array.length_toList];omega)]
  ·rw [heap_grow_old _ _ (by simpa using hk)]
   have:g≠k:=fun e=>hne (by rw [e])
   simp [putRow,mapBlock,Sort.ahead,Array.getElem?_modify,this]
theorem sortEl_some (base g cap:Nat) (ss:List EV) (w:World) (H:w.ownsRow base 83 3 (.slice (some ⟨g,0,none⟩) ss.length cap) ss.length (ss.flatMap EV.cells)) (hbig:ss.length≤1000000) :
  Calls Tryz.prog 44 #[.slice (some ⟨g,0,none⟩) ss.length cap,.func (.func 45) #[] #[]] w fun e w'=>
   e=.returned (.tuple #[])∧∃ ts:List EV,ts.Perm ss∧EliAsc (ts.map EV.x)∧w'.ownsRow base 83 3 (.slice (some ⟨g,0,none⟩) ss.length cap) ss.length (ts.flatMap EV.cells)∧w.grownBy w' (some g):=by
 have eg:∀ args w,(callFunc 45 args).run Tryz.prog w=.ok (.enter 45 args) w:=enters_of Tryz.func45 (by kernel_rfl) rfl
 have hg:=(H.lt g rfl)
 have hcon:=AnyQ.slices_SortFunc Tryz.sortEl 3 Tryz.isAgg83 Tryz.sizeOf83 EV.cells (fun _=>rfl) EV.one cfE swo_el 45 #[] g 0 cap ss.toArray w eg (cmpLays_el g 0 _ w) (holdsE_own H rfl) hg.2 (by rw [List.size_toArray];omega)
 change Calls Tryz.prog 44 #[.slice (some ⟨g,0,none⟩) ss.length cap,.func (.func 45) #[] #[]] w _ at hcon
 refine hcon.mono ?_
 rintro e w' ⟨rfl,d',n,os,hp,hs,rfl⟩
 have hsz:d'.size=ss.length:=by have:=hp.1;rwa [List.size_toArray] at this
 have hperm:d'.toList.Perm ss:=by
  have h:=hp.2.2
  rw [show ss.toArray.size=d'.size from by rw [hsz,List.size_toArray]] at h
  rw [Array.extract_size] at h
  rw [show d'.size=ss.toArray.size from by rw [hsz,List.size_toArray],Array.extract_size] at h
  simpa using h
 obtain ⟨h1,h2⟩:=own_sortE (m:=n) (os:=os) H (flatK EV.cells 3 d') (by rw [size_flatK,hsz])
 refine ⟨rfl,d'.toList,hperm,?_,?_,h2⟩
 ·unfold EliAsc
  rw [List.pairwise_map,List.pairwise_iff_getElem]
  intro i j hi hj hij
  rw [Array.length_toList] at hi hj
  have h:=hs i j (Nat.zero_le _) hij (by rw [List.size_toArray];omega)
  rw [ltOf_el,getElem!_pos d' i hi,getElem!_pos d' j hj] at h
  rw [Array.getElem_toList,Array.getElem_toList]
  have:=of_decide_eq_false h
  omega
 ·rw [← flatE_list];exact h1
theorem sortEl_any (base n:Nat) (v:Value) (ss:List EV) (hn:ss.length=n) (w:World) (H:w.ownsRow base 83 3 v n (ss.flatMap EV.cells)) (hbig:ss.length≤1000000) :
  Calls Tryz.prog 44 #[v,.func (.func 45) #[] #[]] w fun e w'=>
   e=.returned (.tuple #[])∧∃ ts:List EV,ts.Perm ss∧EliAsc (ts.map EV.x)∧w'.ownsRow base 83 3 v n (ts.flatMap EV.cells)∧w.grownBy w' v.ownBlock:=by
 subst hn
 rcases H.2 with ⟨rfl,h0⟩ | ⟨g,cap,cur,rfl,_⟩
 ·have hz:=List.eq_nil_of_length_eq_zero h0
  subst hz
  refine (AnyF.slices_SortFunc_none (P:=Tryz.prog) (ρ:=Tryz.sortEl_ren) { Tryz.sortEl with } none 0 (.func (.func 45) #[] #[]) w).mono ?_
  rintro e w2 ⟨rfl,rfl⟩
  exact ⟨rfl,[],List.Perm.refl _,List.Pairwise.nil,H,World.grownBy.refl _ _⟩
 ·exact sortEl_some base g cap ss w H hbig
end Go.Proofs.YtoaidbhiciaeaaaGreat

end
section
namespace Go.Proofs.YtoaidbhiciaeaaaGreat
open Go.RowKit
def MtR (a b:MV):Prop:=a.x.id≠b.x.id∧∀ r∈b.x.left ++ b.x.right,r∉a.x.left ++ a.x.right
theorem MtR.symm {a b:MV} (h:MtR a b):MtR b a:=⟨fun e=>h.1 e.symm,fun r hr hb=>h.2 r hb hr⟩
theorem mem_refs (ms:List MV) (r:Rf):r∈refsOf ms↔∃ m∈ms,r∈m.x.left ++ m.x.right:=by unfold refsOf;exact List.mem_flatMap
theorem okM_iff {es:List JV} {ms:List MV} {k:Nat} (hk:k < ms.length):okM es ms k=true↔(1≤ms[k].x.id∧(sidesR es ms[k].x).2.2=0)∧∀ j (hj:j < ms.length),j < k→MtR ms[j] ms[k]:=by
 rw [okM_at hk]
 simp only [Bool.and_eq_true,decide_eq_true_eq,Bool.not_eq_true',List.any_eq_false,beq_iff_eq,List.all_eq_true,memB,decide_eq_false_iff_not]
 constructor
 ·rintro ⟨h1,h2,h3,h4⟩
  refine ⟨⟨h1,h3⟩,fun j hj hjk=>⟨fun e=>h2 _ (List.mem_take_iff_getElem.2 ⟨j,by omega,rfl⟩) e,fun r hr hm=>h4 r hr ((mem_refs _ _).2 ⟨_,List.mem_take_iff_getElem.2 ⟨j,by omega,rfl⟩,hm⟩)⟩⟩
 ·rintro ⟨⟨h1,h3⟩,h⟩
  refine ⟨h1,fun q hq e=>?_,h3,fun r hr hm=>?_⟩
  ·obtain ⟨j,hj,rfl⟩:=List.mem_take_iff_getElem.1 hq
   exact (h j (by omega) (by omega)).1 e
  ·obtain ⟨m,hm1,hm2⟩:=(mem_refs _ _).1 hm
   obtain ⟨j,hj,rfl⟩:=List.mem_take_iff_getElem.1 hm1
   exact (h j (by omega) (by omega)).2 r hr hm2
theorem allMB_iff (es:List JV) (ms:List MV):allMB es ms=true↔(∀ m∈ms,1≤m.x.id∧(sidesR es m.x).2.2=0)∧ms.Pairwise MtR∧ms.length≤300:=by
 unfold allMB
 rw [Bool.and_eq_true,List.all_eq_true,decide_eq_true_eq]
 constructor
 ·rintro ⟨h,hl⟩
  refine ⟨fun m hm=>?_,List.pairwise_iff_getElem.2 fun i j hi hj hij=>?_,hl⟩
  ·obtain ⟨k,hk,rfl⟩:=List.getElem_of_mem hm
   exact ((okM_iff hk).1 (h k (List.mem_range.2 hk))).1
  ·exact ((okM_iff hj).1 (h j (List.mem_range.2 hj))).2 i hi hij
 ·rintro ⟨h1,h2,hl⟩
  refine ⟨fun k hk=>?_,hl⟩
  have hk:=List.mem_range.1 hk
  exact (okM_iff hk).2 ⟨h1 _ (List.getElem_mem ..),fun j hj hjk=>List.pairwise_iff_getElem.1 h2 j k hj hk hjk⟩
theorem allMB_ids {es:List JV} {ms:List MV} (h:allMB es ms=true):(ms.map (fun m=>m.x.id)).Nodup:=List.pairwise_map.2 (((allMB_iff _ _).1 h).2.1.imp fun h=>h.1)
theorem errI_zero {g:Grp} {es:List JV} {hs:List Hol} {ms:List MV} {p:Int} (h:errI g es hs ms p=0):grpB g=true∧hvalidB (g.ents.length:Int) hs=true∧allMB es ms=true:=by
 unfold errI at h
 split at h
 ·assumption
 ·cases h
theorem elis_ids {g:Grp} {es:List JV} {hs:List Hol} {ms:List MV} {items:List Itm} {d:Int} (h:allMB es ms=true):((elisR g es hs items d ms).map Eli.id).Nodup:=by
 unfold elisR
 rw [List.map_map]
 exact List.Nodup.sublist ((List.filter_sublist (l:=ms)).map _) (allMB_ids h)
theorem elisS_mem {g:Grp} {es:List JV} {hs:List Hol} {ms:List MV} {items:List Itm} {p:Int} {x:Eli}:x∈elisS g es hs ms items p↔∃ m∈ms,eliB g es hs items (dayB g p) m.x=true∧eliM es items m.x=x:=by
 unfold elisS
 rw [(sortE_perm _).mem_iff]
 unfold elisR
 rw [List.mem_map]
 constructor
 ·rintro ⟨m,hm,rfl⟩
  obtain ⟨h1,h2⟩:=List.mem_filter.1 hm
  exact ⟨m,h1,h2,rfl⟩
 ·rintro ⟨m,h1,h2,rfl⟩
  exact ⟨m,List.mem_filter.2 ⟨h1,h2⟩,rfl⟩
end Go.Proofs.YtoaidbhiciaeaaaGreat

end
section
namespace Go.Proofs.YtoaidbhiciaeaaaGreat
open Go.RowKit
theorem elemEl:ElemOf Tryz.prog 80 83 (.agg #[.int .i64 0,.int .i64 0,.slice none 0 0]) 3 40:=⟨Tryz.underlying80,by kernel_rfl,rfl,by omega⟩
structure IcaR (w wr:World) (g:Grp) (es:List JV) (hs:List Hol) (items:List Itm) (d:Int) (ms:List MV) (k:Nat) (v:Value) (ls:List EV):Prop where
 kp:Keeps w wr
 own:wr.ownsRow w.heap.size 83 3 v ls.length (ls.flatMap EV.cells)
 inn:Inn eliD wr v.ownBlock ls
 eq:ls.map EV.x=elisR g es hs items d (ms.take k)
def AOut (w:World) (xs:List Eli) (e:Ending) (w':World):Prop:=∃ (ts:List EV) (ao:Option Addr) (cap b:Nat),e=.returned (.slice ao ts.length cap)∧Recs w' 3 EV.cells ao ts cap b 0∧(∀ q∈ts,eliD.rec1 w' q)∧ts.map EV.x=xs∧Keeps w w'
theorem ica_skip {w wr wn:World} {g:Grp} {es:List JV} {hs:List Hol} {items:List Itm} {d:Int} {ms:List MV} {k:Nat} {v:Value} {ls:List EV} (H:IcaR w wr g es hs items d ms k v ls) (hk:k < ms.length) {m:MV} (hm:ms[k]=m) (hq:eliB g es hs items d m.x=false) (hn:Keeps wr wn):IcaR w wn g es hs items d ms (k+1) v ls:=
 ⟨H.kp.trans hn,own_keepsH H.own hn,H.inn.keeps hn,by rw [H.eq,take_snoc _ k hk,hm,elisR_snoc,if_neg (by rw [hq];simp)]⟩
theorem elis_len (g:Grp) (es:List JV) (hs:List Hol) (items:List Itm) (d:Int) (ms:List MV):(elisR g es hs items d ms).length≤ms.length:=by
 unfold elisR
 rw [List.length_map]
 exact List.length_filter_le _ _
set_option maxRecDepth 100000 in
theorem fall_any (bv:List Value) (g:Grp) (es:List JV) (hs:List Hol) (ms:List MV) (items:List Itm) (B mb:Nat) (a b:Int) (w:World) (HF:Fin w B mb bv items a b) (H:BkG w bv g es hs ms) (SM:SmallB g es hs ms items) (hB:allMB es ms=true) :
  Calls Tryz.prog 26 #[.pointer (some ⟨B,0,none⟩)] w (AOut w (sortE (elisR g es hs items b ms))):=by
 obtain ⟨aoM,capM,bM,oM,hb24,hM⟩:=H.bks.mts
 have h24:=HF.cell hb24
 have hcap:=Sl.cap hM.row
 have hle:=Sl.le hM.row
 have HM:=Lib.hid hM
 have hmlen:=SM.mlen
 have HMC:Hid (∀ (m:MV) W,m∈ms→Keeps w W→Calls Tryz.prog 43 #[.pointer (some ⟨B,0,none⟩),.agg #[.int .i64 m.x.id,.slice m.al m.x.left.length m.cl,.slice m.ar m.x.right.length m.cr,.int .i64 m.x.state]] W (MOut W (eliB g es hs items b m.x) (eliM es items m.x))):=Lib.hid (fun m W hm hk=>
  mtch_any bv g es hs ms items B mb a b m.x m.al m.cl m.bl m.ol m.ar m.cr m.br m.or_ W (HF.keeps hk) (H.keeps hk) SM ((hM.left m hm).keeps hk) ((hM.right m hm).keeps hk) (SM.sides m hm).1 (SM.sides m hm).2 (H.bks.mok m hm))
 have HID:=Lib.hid (elis_ids (g:=g) (hs:=hs) (items:=items) (d:=b) hB)
 clear HF H SM hB hM hb24
 go_enter Tryz.func26,Tryz.ntmps26
 go_wp2_with fail
 go_loopw [3,14] (fun v vi wr=>∃ (k:Nat) (ls:List EV),k≤ms.length∧vi=.int .i64 k∧Hid (IcaR w wr g es hs items b ms k v ls)) (fun _ vi _=>ms.length - (intOf vi).toNat)
 case atStart=>exact ⟨0,[],Nat.zero_le _,rfl,Lib.hid ⟨Keeps.refl _,World.ownsRow_nil _ _ _ _,Inn.nil,by rw [List.take_zero];rfl⟩⟩
 case round=>
  obtain ⟨k,ls,hk,rfl,HW⟩:=hrel
  have KW:=Lib.hid HW.out.kp
  by_cases hlt:k < ms.length
  ·have hr:=HM.out.row.keeps KW.out
   have hix:=Sl.at hr Tryz.underlying33 Tryz.sizeOf48 k hlt
   obtain ⟨m,hmk⟩:∃ m,ms[k]=m:=⟨_,rfl⟩
   have c0:=hr.cell MV.len k hlt 0 (.int .i64 m.x.id) (by rw [hmk];rfl)
   have c1:=hr.cell MV.len k hlt 1 (.slice m.al m.x.left.length m.cl) (by rw [hmk];rfl)
   have c2:=hr.cell MV.len k hlt 2 (.slice m.ar m.x.right.length m.cr) (by rw [hmk];rfl)
   have c3:=hr.cell MV.len k hlt 3 (.int .i64 m.x.state) (by rw [hmk];rfl)
   rw [Nat.add_zero] at c0
   have HMK:=Lib.hid hmk
   have HMT:Hid (Calls Tryz.prog 43 #[.pointer (some ⟨B,0,none⟩),.agg #[.int .i64 m.x.id,.slice m.al m.x.left.length m.cl,.slice m.ar m.x.right.length m.cr,.int .i64 m.x.state]] (wr.alloc (.cells #[.int .i64 m.x.id,.slice m.al m.x.left.length m.cl,.slice m.ar m.x.right.length m.cr,.int .i64 m.x.state] 48)) (MOut (wr.alloc (.cells #[.int .i64 m.x.id,.slice m.al m.x.left.length m.cl,.slice m.ar m.x.right.length m.cr,.int .i64 m.x.state] 48)) (eliB g es hs items b m.x) (eliM es items m.x))):=Lib.hid (HMC.out m _ (by rw [← hmk];exact List.getElem_mem ..) (KW.out.alloc _))
   clear hr hmk
   obtain ⟨x,hx⟩:∃ x,eliM es items m.x=x:=⟨_,rfl⟩
   rw [hx] at HMT
   have HX:=Lib.hid hx
   clear hx
   cases hq:eliB g es hs items b m.x with
   | false=>
    have HQ:=Lib.hid hq
    rw [hq] at HMT
    clear hq
    go_wp2_with (go_at_call 43;(refine (HMT.out).mono ?_);rintro e5 w5 ⟨v5,rfl,hk5,hy5,hn5⟩;obtain rfl:=hn5 rfl)
    go_roundw
    case rel=>exact ⟨k+1,ls,by omega,by go_num,Lib.hid (ica_skip HW.out hlt HMK.out HQ.out ((((Keeps.refl wr).alloc _).trans hk5).alloc _))⟩
    case measure=>simp [intOf];omega
   | true=>
    have HQ:=Lib.hid hq
    rw [hq] at HMT
    clear hq
    have hls:ls.length≤k:=by
     have:=congrArg List.length HW.out.eq
     rw [List.length_map] at this
     have h2:=elis_len g es hs items b (ms.take k)
     rw [List.length_take] at h2
     omega
    go_wp2_with (first | (go_at_call 43;(refine (HMT.out).mono ?_);rintro e5 w5 ⟨v5,rfl,hk5,hy5,hn5⟩;obtain ⟨a5,c5,rfl,ho5⟩:=hy5 rfl;have HO5:=Lib.hid (And.intro hk5 ho5);have hkr:=(((Keeps.refl wr).alloc (.cells #[.int .i64 m.x.id,.slice m.al m.x.left.length m.cl,.slice m.ar m.x.right.length m.cr,.int .i64 m.x.state] 48)).trans hk5);have KR:=Lib.hid hkr;obtain ⟨ao6,cap6,b6,he6,hs6⟩:=Sl.own ho5;cases he6;have HS6:=Lib.hid hs6;clear hy5 hn5 hk5 ho5 hkr hs6) | (at_builtin;(refine wpList_app_nest elemEl rfl (.tmp 25) (.tmp 27) rfl w _ ls.length (ls.flatMap EV.cells) rfl w.heap.size (own_keepsH HW.out.own (KR.out.alloc _)) (KW.out.trans (KR.out.alloc _)) (KW.out.trans (KR.out.alloc _)).size eliD ls (HW.out.inn.keeps (KR.out.alloc _)) ⟨x,a5,c5,b6⟩ (Sl.keeps HS6.out ((Keeps.refl w5).alloc _)) (off_new (D:=eliD) (y:=⟨x,a5,c5,b6⟩) (HW.out.own.alloc (.cells #[.int .i64 m.x.id,.slice m.al m.x.left.length m.cl,.slice m.ar m.x.right.length m.cr,.int .i64 m.x.state] 48)) (own_keepsH HO5.out.2 ((Keeps.refl w5).alloc _)) (Sl.keeps HS6.out ((Keeps.refl w5).alloc _))) [.int .i64 x.id,.int .i64 x.left,.slice a5 x.own.length c5] _ 1 rfl (by simp) rfl (EV.one ⟨x,a5,c5,b6⟩) (by omega) (by omega) ?_);intro v' w9 hown' hinn' hk9 hsz9;have HN:Hid (IcaR w w9 g es hs items b ms (k+1) v' (ls ++ [⟨x,a5,c5,b6⟩])):=Lib.hid ⟨hk9,by rw [List.length_append,List.flatMap_append];exact hown',hinn',by rw [List.map_append,HW.out.eq,take_snoc _ k hlt,HMK.out,elisR_snoc,if_pos HQ.out,HX.out];rfl⟩;clear hown' hinn' hk9 hsz9))
    go_roundw
    case rel=>exact ⟨k+1,ls ++ [⟨x,a5,c5,b6⟩],by omega,by go_num,HN⟩
    case measure=>simp [intOf];omega
  ·obtain rfl:k=ms.length:=by omega
   have heq:ls.map EV.x=elisR g es hs items b ms:=by have:=HW.out.eq;rwa [List.take_length] at this
   have hls:ls.length≤1000000:=by
    have:=congrArg List.length heq
    rw [List.length_map] at this
    have h2:=elis_len g es hs items b ms
    omega
   have HEQ:=Lib.hid heq
   clear heq
   go_wp2_with (go_at_call 44;(refine (sortEl_any w.heap.size ls.length _ ls rfl _ HW.out.own hls).mono ?_);rintro e5 w5 ⟨rfl,ts,hp,ha,ho,hg⟩;have HT:=Lib.hid (And.intro hp (And.intro ha (And.intro ho hg)));clear hp ha ho hg)
   go_ret
   obtain ⟨hp,ha,ho,hg⟩:=HT.out
   have hn:ls.length=ts.length:=hp.length_eq.symm
   rw [hn] at ho
   obtain ⟨ao6,cap6,b6,rfl,hs6⟩:=Sl.own ho
   refine ⟨ts,ao6,cap6,b6,rfl,hs6,fun q hq=>((HW.out.inn.grown hg (.inl rfl)) q (hp.mem_iff.1 hq)).1,?_,Below.grown KW.out hg KW.out.size (fun j hj=>(HW.out.own.lt j hj).1)⟩
   refine sortE_eq ?_ HID.out ha
   rw [← HEQ.out]
   exact hp.map _
end Go.Proofs.YtoaidbhiciaeaaaGreat

end
section
namespace Go.Proofs.YtoaidbhiciaeaaaGreat
open Go.RowKit
structure PV where
 x:Pst
 a:Option Addr
 c:Nat
 b:Nat
def PV.cells (e:PV):List Value:=[.int .i64 e.x.kind,.int .i64 e.x.ent,.int .i64 e.x.oth,.int .i64 e.x.rul,.slice e.a e.x.parts.length e.c]
theorem PV.len (e:PV):e.cells.length=5:=rfl
theorem PV.one (e:PV):∀ v∈e.cells,v.oneCell'=true:=by
 intro v hv
 simp only [PV.cells,List.mem_cons,List.not_mem_nil,or_false] at hv
 rcases hv with rfl | rfl | rfl | rfl | rfl <;> rfl
def pstD:NestD PV Prt:=⟨2,Prt.cells,fun e=>e.x.parts,PV.a,PV.c,PV.b⟩
theorem elemPst:ElemOf Tryz.prog 40 59 (.agg #[.int .i64 0,.int .i64 0,.int .i64 0,.int .i64 0,.slice none 0 0]) 5 56:=⟨Tryz.underlying40,by kernel_rfl,rfl,by omega⟩
def PsV (w:World) (l:List Pst) (v:Value):Prop:=∃ (ls:List PV) (ao:Option Addr) (cap b:Nat),v=.slice ao ls.length cap∧Recs w 5 PV.cells ao ls cap b 0∧(∀ e∈ls,pstD.rec1 w e)∧ls.map PV.x=l
theorem PsV.keeps {w w':World} {l:List Pst} {v:Value} (h:PsV w l v) (k:Keeps w w'):PsV w' l v:=by
 obtain ⟨ls,ao,cap,b,e,h1,h2,h3⟩:=h
 exact ⟨ls,ao,cap,b,e,h1.keeps k,fun q hq=>Sl.keeps (h2 q hq) k,h3⟩
theorem PsV.nil (w:World):PsV w [] (.slice none 0 0):=⟨[],none,0,0,rfl,Sl.nil _ _,fun _ h=>absurd h List.not_mem_nil,rfl⟩
structure IcsR (w wr:World) (g:Grp) (a:Int) (X:List Eli) (k:Nat) (v:Value) (ls:List PV):Prop where
 kp:Keeps w wr
 own:wr.ownsRow w.heap.size 59 5 v ls.length (ls.flatMap PV.cells)
 inn:Inn pstD wr v.ownBlock ls
 eq:ls.map PV.x=psts g a (X.take k)
 ok:∀ q∈X.take k,okE g a q=true
theorem ok_snoc {g:Grp} {a:Int} {X:List Eli} {k:Nat} (h:∀ q∈X.take k,okE g a q=true) (hk:k < X.length) {x:Eli} (hx:X[k]=x) (ho:okE g a x=true):∀ q∈X.take (k+1),okE g a q=true:=fun q hq=>by
 rw [take_snoc _ k hk,hx] at hq
 rcases List.mem_append.1 hq with h1 | h1
 ·exact h q h1
 ·rw [List.mem_singleton] at h1;rw [h1];exact ho
theorem ics_skip {w wr wn:World} {g:Grp} {a:Int} {X:List Eli} {k:Nat} {v:Value} {ls:List PV} (H:IcsR w wr g a X k v ls) (hk:k < X.length) {x:Eli} (hx:X[k]=x) (ho:okE g a x=true) (he:(pstE g a x).parts=[]) (hn:Keeps wr wn):IcsR w wn g a X (k+1) v ls:=
 ⟨H.kp.trans hn,own_keepsH H.own hn,H.inn.keeps hn,by rw [H.eq,take_snoc _ k hk,hx,psts_snoc,if_pos he],ok_snoc H.ok hk hx ho⟩
theorem psts_len (g:Grp) (a:Int) (X:List Eli):(psts g a X).length≤X.length:=by
 unfold psts
 refine Nat.le_trans (List.length_filter_le _ _) ?_
 rw [List.length_map];exact Nat.le_refl _
theorem own_items {g:Grp} {es:List JV} {hs:List Hol} {ms:List MV} {items:List Itm} {p:Int} {x:Eli} (h:x∈elisS g es hs ms items p):∀ i∈x.own,i∈items:=by
 obtain ⟨m,hm,hb,rfl⟩:=elisS_mem.1 h
 unfold eliB at hb
 simp only [Bool.and_eq_true,List.all_eq_true] at hb
 intro i hi
 obtain ⟨r,hr,rfl⟩:=List.mem_map.1 hi
 have h1:=hb.2.2.2.2 r hr
 unfold refOk at h1
 rw [Bool.and_eq_true] at h1
 obtain ⟨z,hz⟩:=Option.isSome_iff_exists.1 h1.1
 unfold itemAt
 rw [hz]
 exact List.mem_of_find?_eq_some hz
theorem own_len {g:Grp} {es:List JV} {hs:List Hol} {ms:List MV} {items:List Itm} {p:Int} (hs2:∀ m∈ms,m.x.left.length≤400∧m.x.right.length≤400) {x:Eli} (h:x∈elisS g es hs ms items p):x.own.length≤800:=by
 obtain ⟨m,hm,hb,rfl⟩:=elisS_mem.1 h
 have:=hs2 m hm
 show ((m.x.left ++ m.x.right).map (itemAt items)).length≤800
 rw [List.length_map,List.length_append]
 omega
theorem elisS_len (g:Grp) (es:List JV) (hs:List Hol) (ms:List MV) (items:List Itm) (p:Int):(elisS g es hs ms items p).length≤ms.length:=by
 unfold elisS
 rw [(sortE_perm _).length_eq]
 exact elis_len g es hs items _ ms
set_option maxRecDepth 100000 in
theorem postings_any (bv:List Value) (g:Grp) (es:List JV) (hs:List Hol) (ms:List MV) (items:List Itm) (p:Int) (ao:Option Addr) (cap b o:Nat) (w:World) (H:BkG w bv g es hs ms) (HI:Recs w 7 Itm.cells ao items cap b o) (SM:SmallB g es hs ms items) (hA:∀ x∈items,x.OkA) :
  Calls Tryz.prog 11 #[.agg bv.toArray,.slice ao items.length cap,.int .i64 p] w fun e w'=>∃ v,e=.returned (.tuple #[v,.int .i64 (postsF g es hs ms items p).2])∧PsV w' (postsF g es hs ms items p).1 v∧Keeps w w':=by
 obtain ⟨er,her⟩:∃ q,errI g es hs ms p=q:=⟨_,rfl⟩
 have HN:Hid (Calls Tryz.prog 25 #[.agg bv.toArray,.slice ao items.length cap,.int .i64 p] (w.alloc (.cells bv.toArray 36)) fun e w'=>∃ v,e=.returned (.tuple #[v,.int .i64 er])∧Keeps (w.alloc (.cells bv.toArray 36)) w'∧(er=0→∃ B mb,v=.pointer (some ⟨B,0,none⟩)∧Fin w' B mb bv items (dayA g p) (dayB g p))):=Lib.hid (by
  have:=finder_any bv g es hs ms items p ao cap b o _ (H.keeps ((Keeps.refl w).alloc (.cells bv.toArray 36))) (HI.keeps ((Keeps.refl w).alloc (.cells bv.toArray 36))) SM
  rw [her] at this
  exact this)
 have HBL:=Lib.hid H.bks.len
 have hrg:=box_range w bv 36
 have hk0:Keeps w (w.alloc (.cells bv.toArray 36)):=(Keeps.refl w).alloc _
 have hz1:w.heap.size+1=(w.alloc (.cells bv.toArray 36)).heap.size:=by simp
 obtain ⟨W1,hW1⟩:∃ W1,w.alloc (.cells bv.toArray 36)=W1:=⟨_,rfl⟩
 rw [hW1] at hrg hk0 HN hz1
 have HW1:=Lib.hid hk0
 have HRG:Hid (∀ W,Keeps W1 W→W.rangeAt w.heap.size 0 bv):=Lib.hid (fun W hk=>range_keeps hrg hk)
 have HB:=Lib.hid H
 have HSM:=Lib.hid SM
 have HAI:=Lib.hid hA
 have hml:=SM.mlen
 clear H HI SM hrg hk0 hA
 by_cases h0:er=0
 ·subst h0
  have HE:=Lib.hid (rfl:(0:Int)=0)
  have HPF:Hid (postsF g es hs ms items p=postR g (dayA g p) (elisS g es hs ms items p)):=Lib.hid (by unfold postsF;rw [if_pos her])
  have HAM:=Lib.hid (errI_zero her).2.2
  have HRO:=Lib.hid HSM.out.gok.2.2.2.1
  have hel:=elisS_len g es hs ms items p
  clear her
  go_enter Tryz.func11,Tryz.ntmps11
  go_upto_region 1 with fail
  try rw [hW1]
  try rw [hz1]
  clear hW1 hz1
  go_wp2_with (first | (refine wpList_rowG 36 _ rfl rfl w.heap.size bv _ rfl (HRG.out _ (Keeps.refl W1)) Tryz.underlying36 rfl (by rw [HBL.out];exact booksSize) ?_) | (go_at_call 25;(refine (HN.out).mono ?_);rintro e1 w1 ⟨v1,rfl,hk1,hf1⟩;obtain ⟨B,mb,rfl,hfin⟩:=hf1 HE.out;have K1:=Lib.hid (HW1.out.trans hk1);have HFI:=Lib.hid hfin;clear hk1 hf1 hfin) | (go_at_call 26;(refine (fall_any bv g es hs ms items B mb _ _ w1 HFI.out (HB.out.keeps K1.out) HSM.out HAM.out).mono ?_);rintro e2 w2 ⟨ts,ao2,cap2,b2,rfl,hs2,hi2,hx2,hk2⟩;have K2:=Lib.hid (K1.out.trans hk2);have HF2:=Lib.hid (HFI.out.keeps hk2);have HS2:=Lib.hid hs2;have HI2:=Lib.hid hi2;have HX2:Hid (ts.map EV.x=elisS g es hs ms items p):=Lib.hid hx2;have hcap2:=Sl.cap hs2;have hle2:=Sl.le hs2;clear hs2 hi2 hx2 hk2))
  have htl:ts.length=(elisS g es hs ms items p).length:=by
   have:=congrArg List.length HX2.out
   rwa [List.length_map] at this
  have htb:ts.length≤1000:=by omega
  have HTL:=Lib.hid htl
  clear htl hel
  go_loopw [10,28] (fun v vi wr=>∃ (k:Nat) (ls:List PV),k≤ts.length∧vi=.int .i64 k∧Hid (Keeps w2 wr)∧Hid (IcsR w2 wr g (dayA g p) (elisS g es hs ms items p) k v ls)) (fun _ vi _=>ts.length - (intOf vi).toNat)
  case atStart=>exact ⟨0,[],Nat.zero_le _,rfl,Lib.hid (Keeps.refl _),Lib.hid ⟨Keeps.refl _,World.ownsRow_nil _ _ _ _,Inn.nil,by rw [List.take_zero];rfl,by simp⟩⟩
  case round=>
   obtain ⟨k,ls,hk,rfl,HKR,HW⟩:=hrel
   have KW:=Lib.hid (K2.out.trans HKR.out)
   by_cases hlt:k < ts.length
   ·have hr:=HS2.out.keeps HKR.out
    have hix:=Sl.at hr Tryz.underlying80 Tryz.sizeOf83 k hlt
    obtain ⟨y,hyk⟩:∃ y,ts[k]=y:=⟨_,rfl⟩
    have c0:=hr.cell EV.len k hlt 0 (.int .i64 y.x.id) (by rw [hyk];rfl)
    have c1:=hr.cell EV.len k hlt 1 (.int .i64 y.x.left) (by rw [hyk];rfl)
    have c2:=hr.cell EV.len k hlt 2 (.slice y.a y.x.own.length y.c) (by rw [hyk];rfl)
    simp only [Nat.add_zero,Nat.zero_add] at c0 c1 c2 hix
    have HLX:Hid (k < (elisS g es hs ms items p).length):=Lib.hid (by have:=HTL.out;omega)
    have hyx:(elisS g es hs ms items p)[k]'HLX.out=y.x:=by
     have:(ts.map EV.x)[k]'(by rw [List.length_map];exact hlt)=y.x:=by rw [List.getElem_map,hyk]
     rw [← this]
     congr 1
     exact HX2.out.symm
    have HYX:=Lib.hid hyx
    have hym:y.x∈elisS g es hs ms items p:=by rw [← hyx];exact List.getElem_mem ..
    have hyr:eliD.rec1 w2 y:=HI2.out y (by rw [← hyk];exact List.getElem_mem ..)
    have HPO:Hid (Calls Tryz.prog 27 #[.pointer (some ⟨B,0,none⟩),.agg #[.int .i64 y.x.id,.int .i64 y.x.left,.slice y.a y.x.own.length y.c]] (wr.alloc (.cells #[.int .i64 y.x.id,.int .i64 y.x.left,.slice y.a y.x.own.length y.c] 83)) (TOut (wr.alloc (.cells #[.int .i64 y.x.id,.int .i64 y.x.left,.slice y.a y.x.own.length y.c] 83)) (okE g (dayA g p) y.x) (pstE g (dayA g p) y.x))):=Lib.hid (
     post_any bv g es hs ms items B mb _ _ y.x.id y.x.left y.x.own y.a y.c y.b 0 _ (HF2.out.keeps (HKR.out.alloc _)) (HB.out.keeps (KW.out.alloc _)) HRO.out (Sl.keeps hyr (HKR.out.alloc _)) (own_len HSM.out.sides hym) (fun i hi=>HAI.out i (own_items hym i hi)))
    clear hr hyk hyx hym hyr
    obtain ⟨x,hx⟩:∃ x,pstE g (dayA g p) y.x=x:=⟨_,rfl⟩
    rw [hx] at HPO
    have HX:=Lib.hid hx
    clear hx
    cases hq:okE g (dayA g p) y.x with
    | false=>
     have HBD:Hid (postsF g es hs ms items p=([],2)):=Lib.hid (by
      rw [HPF.out]
      unfold postR
      rw [if_neg]
      rw [List.all_eq_true]
      intro hall
      have:=hall _ (List.getElem_mem HLX.out)
      rw [HYX.out,hq] at this
      cases this)
     rw [hq] at HPO
     clear hq
     go_wp2_with (go_at_call 27;(refine (HPO.out).mono ?_);rintro e5 w5 ⟨v5,rfl,hk5,hy5,hn5⟩;obtain rfl:=hn5 rfl)
     refine bodyPost_ret (results_tmp2 rfl _ _ _) rfl ?_
     rw [HBD.out]
     exact ⟨_,rfl,PsV.nil _,KW.out.trans ((((Keeps.refl wr).alloc _).trans hk5).alloc _)⟩
    | true=>
     have HQ:=Lib.hid hq
     rw [hq] at HPO
     clear hq
     have hls:ls.length≤k:=by
      have:=congrArg List.length HW.out.eq
      rw [List.length_map] at this
      have h2:=psts_len g (dayA g p) ((elisS g es hs ms items p).take k)
      rw [List.length_take] at h2
      omega
     by_cases hp0:x.parts=[]
     ·have e0:x.parts.length=0:=by rw [hp0];rfl
      have HSK:Hid (∀ wn,Keeps wr wn→IcsR w2 wn g (dayA g p) (elisS g es hs ms items p) (k+1) u10 ls):=Lib.hid (fun wn hwn=>ics_skip HW.out HLX.out HYX.out HQ.out (by rw [HX.out];exact hp0) hwn)
      clear hp0
      go_wp2_with (go_at_call 27;(refine (HPO.out).mono ?_);rintro e5 w5 ⟨v5,rfl,hk5,hy5,hn5⟩;obtain ⟨a5,c5,rfl,ho5⟩:=hy5 rfl)
      go_roundw
      case rel=>exact ⟨k+1,ls,by omega,by go_num,Lib.hid (HKR.out.trans ((((Keeps.refl wr).alloc _).trans hk5).alloc _)),Lib.hid (HSK.out _ ((((Keeps.refl wr).alloc _).trans hk5).alloc _))⟩
      case measure=>simp [intOf];omega
     ·have e0:decide ((0:Int) < (x.parts.length:Int))=true:=by
       have:0 < x.parts.length:=List.length_pos_iff.2 hp0
       exact decide_eq_true (by omega)
      have e1:0 < x.parts.length:=List.length_pos_iff.2 hp0
      have HNE:=Lib.hid hp0
      clear hp0
      go_wp2_with (first | (go_at_call 27;(refine (HPO.out).mono ?_);rintro e5 w5 ⟨v5,rfl,hk5,hy5,hn5⟩;obtain ⟨a5,c5,rfl,ho5⟩:=hy5 rfl;have HO5:=Lib.hid ho5;have KR:=Lib.hid (((Keeps.refl wr).alloc (.cells #[.int .i64 y.x.id,.int .i64 y.x.left,.slice y.a y.x.own.length y.c] 83)).trans hk5);have KR5:=Lib.hid hk5;obtain ⟨ao6,cap6,b6,he6,hs6⟩:=Sl.own ho5;cases he6;have HS6:=Lib.hid hs6;clear hy5 hn5 hk5 ho5 hs6) | (at_builtin;(refine wpList_app_nest elemPst rfl (.tmp 45) (.tmp 47) rfl w2 _ ls.length (ls.flatMap PV.cells) rfl w2.heap.size (own_keepsH HW.out.own (KR.out.alloc _)) (HKR.out.trans (KR.out.alloc _)) (HKR.out.trans (KR.out.alloc _)).size pstD ls (HW.out.inn.keeps (KR.out.alloc _)) ⟨x,a5,c5,b6⟩ (Sl.keeps HS6.out ((Keeps.refl w5).alloc _)) (off_new (D:=pstD) (y:=⟨x,a5,c5,b6⟩) (HW.out.own.alloc (.cells #[.int .i64 y.x.id,.int .i64 y.x.left,.slice y.a y.x.own.length y.c] 83)) (own_keepsH HO5.out ((Keeps.refl w5).alloc _)) (Sl.keeps HS6.out ((Keeps.refl w5).alloc _))) [.int .i64 x.kind,.int .i64 x.ent,.int .i64 x.oth,.int .i64 x.rul,.slice a5 x.parts.length c5] _ 1 rfl (by simp) rfl (PV.one ⟨x,a5,c5,b6⟩) (by omega) (by omega) ?_);intro v' w9 hown' hinn' hk9 hsz9;have HNX:Hid (IcsR w2 w9 g (dayA g p) (elisS g es hs ms items p) (k+1) v' (ls ++ [⟨x,a5,c5,b6⟩])):=Lib.hid ⟨hk9,by rw [List.length_append,List.flatMap_append];exact hown',hinn',by rw [List.map_append,HW.out.eq,take_snoc _ k HLX.out,HYX.out,psts_snoc,if_neg (by rw [HX.out];exact HNE.out),HX.out];rfl,ok_snoc HW.out.ok HLX.out HYX.out HQ.out⟩;clear hown' hinn' hk9 hsz9))
      go_roundw
      case rel=>exact ⟨k+1,ls ++ [⟨x,a5,c5,b6⟩],by omega,by go_num,Lib.hid HNX.out.kp,HNX⟩
      case measure=>simp [intOf];omega
   ·obtain rfl:k=ts.length:=by omega
    have HBD:Hid (postsF g es hs ms items p=(psts g (dayA g p) (elisS g es hs ms items p),0)):=Lib.hid (by
     rw [HPF.out]
     unfold postR
     rw [if_pos]
     rw [List.all_eq_true]
     have:=HW.out.ok
     rw [HTL.out,List.take_length] at this
     exact this)
    have heq:=HW.out.eq
    rw [HTL.out,List.take_length] at heq
    have HEQ:=Lib.hid heq
    clear heq
    obtain ⟨ao6,cap6,b6,he6,hs6⟩:=Sl.own HW.out.own
    subst he6
    have HS6:=Lib.hid hs6
    clear hs6
    go_wp2_with fail
    refine bodyPost_ret (results_tmp2 rfl _ _ _) rfl ?_
    rw [HBD.out]
    exact ⟨_,rfl,⟨ls,ao6,cap6,b6,rfl,HS6.out,fun q hq=>(HW.out.inn q hq).1,HEQ.out⟩,KW.out⟩
 ·have HPF:Hid (postsF g es hs ms items p=([],er)):=Lib.hid (by unfold postsF;rw [if_neg (by rw [her];exact h0),her])
  have e0:(er != 0)=true:=by simpa using h0
  clear h0 her
  go_enter Tryz.func11,Tryz.ntmps11
  go_upto_region 1 with fail
  try rw [hW1]
  try rw [hz1]
  clear hW1 hz1
  go_wp2_with (first | (refine wpList_rowG 36 _ rfl rfl w.heap.size bv _ rfl (HRG.out _ (Keeps.refl W1)) Tryz.underlying36 rfl (by rw [HBL.out];exact booksSize) ?_) | (go_at_call 25;(refine (HN.out).mono ?_);rintro e1 w1 ⟨v1,rfl,hk1,_⟩;have K1:=Lib.hid hk1;clear hk1))
  refine bodyPost_ret (results_tmp2 rfl _ _ _) rfl ?_
  rw [HPF.out]
  exact ⟨_,rfl,PsV.nil _,HW1.out.trans K1.out⟩
end Go.Proofs.YtoaidbhiciaeaaaGreat

end
