/- Walks and plain facts that the claim rests on (IcoL). No condition. -/
import Derived.Test.YtoaidbhiciaeaaaGreatPo39
import Derived.Test.YtoaidbhiciaeaaaGreatUn0
import Derived.Test.YtoaidbhiciaeaaaGreatPo41
set_option linter.unusedSimpArgs false
set_option linter.unusedVariables false
set_option maxHeartbeats 16000000
section
namespace Go.Proofs.YtoaidbhiciaeaaaGreat
open Go.RowKit
theorem posts_bad {g:Grp} {es:List JV} {hs:List Hol} {ms:List MV} {items:List Itm} {p:Int} (h:(postsF g es hs ms items p).2≠0):(postsF g es hs ms items p).1=[]:=by
 unfold postsF at *
 split at h
 ·rename_i h0
  rw [if_pos h0] 
  unfold postR at *
  split at h
  ·exact absurd rfl h
  ·rename_i h1
   rw [if_neg h1]
 ·rename_i h0
  rw [if_neg h0]
theorem posts_good {g:Grp} {es:List JV} {hs:List Hol} {ms:List MV} {items:List Itm} {p:Int} (h:(postsF g es hs ms items p).2=0):errI g es hs ms p=0∧(elisS g es hs ms items p).all (okE g (dayA g p))=true∧(postsF g es hs ms items p).1=psts g (dayA g p) (elisS g es hs ms items p):=by
 unfold postsF at *
 split at h
 ·rename_i h0
  rw [if_pos h0]
  unfold postR at *
  split at h
  ·rename_i h1
   rw [if_pos h1]
   exact ⟨h0,h1,rfl⟩
  ·cases h
 ·rename_i h0
  exact absurd h h0
def prtS:List Prt→Int→Int
 | [],_=>0
 | x :: t,c=>(if x.acc=c then x.amt else 0)+prtS t c
def prtT:List Prt→Int
 | []=>0
 | x :: t=>x.amt+prtT t
theorem prtS_snoc (l:List Prt) (x:Prt) (c:Int):prtS (l ++ [x]) c=prtS l c+if x.acc=c then x.amt else 0:=by
 induction l with
 | nil=>simp [prtS]
 | cons y t ih=>rw [List.cons_append,prtS,ih,prtS];omega
theorem prtT_snoc (l:List Prt) (x:Prt):prtT (l ++ [x])=prtT l+x.amt:=by
 induction l with
 | nil=>simp [prtT]
 | cons y t ih=>rw [List.cons_append,prtT,ih,prtT];omega
theorem prtS_parts (own:List Itm) (acc:Int) (c:Int):∀ {ks:List Int},ks.Nodup→prtS (partsL own acc ks) c=if c∈ks then sumP own acc c else 0
 | [],_=>rfl
 | k :: t,h=>by
  rw [List.nodup_cons] at h
  have ih:=prtS_parts own acc c h.2
  unfold partsL at *
  rw [List.map_cons,List.filter_cons]
  by_cases h0:sumP own acc k=0
  ·have:((⟨k,sumP own acc k⟩:Prt).amt != 0)=false:=by simp [h0]
   rw [this,if_neg (by simp),ih]
   by_cases hc:c=k
   ·subst hc
    rw [if_neg h.1,if_pos (List.mem_cons_self ..),h0]
   ·by_cases hm:c∈t
    ·rw [if_pos hm,if_pos (List.mem_cons_of_mem _ hm)]
    ·rw [if_neg hm,if_neg (fun e=>(List.mem_cons.1 e).elim hc hm)]
  ·have:((⟨k,sumP own acc k⟩:Prt).amt != 0)=true:=by simp [h0]
   rw [this,if_pos rfl,prtS,ih]
   simp only
   by_cases hc:c=k
   ·subst hc
    rw [if_pos rfl,if_neg h.1,if_pos (List.mem_cons_self ..),Int.add_zero]
   ·rw [if_neg (fun e=>hc e.symm),Int.zero_add]
    by_cases hm:c∈t
    ·rw [if_pos hm,if_pos (List.mem_cons_of_mem _ hm)]
    ·rw [if_neg hm,if_neg (fun e=>(List.mem_cons.1 e).elim hc hm)]
theorem asc_nodup {l:List Int} (h:Asc l):l.Nodup:=List.Pairwise.imp (fun {a b} (h:a < b)=>by omega) h
theorem keysP_mem (own:List Itm) (acc c:Int):c∈keysP own acc↔c=acc∨c∈own.map Itm.acc:=by unfold keysP;rw [keysL_mem,List.mem_cons]
theorem accS_out {own:List Itm} {c:Int} (h:c∉own.map Itm.acc):accS own c=0:=by
 induction own with
 | nil=>rfl
 | cons y t ih=>
  rw [List.map_cons,List.mem_cons,not_or] at h
  rw [accS,if_neg (fun e=>h.1 e.symm),ih h.2];rfl
theorem sum_all (own:List Itm) (acc c:Int):accS own c+prtS (partsP own acc) c=if c=acc then totS own else 0:=by
 unfold partsP
 rw [prtS_parts own acc c (asc_nodup (show Asc (keysP own acc) from keysL_asc _))]
 have hm:=keysP_mem own acc c
 unfold keysP at hm
 by_cases h:c∈keysL (acc :: own.map Itm.acc)
 ·rw [show keysP own acc=keysL (acc :: own.map Itm.acc) from rfl,if_pos h];unfold sumP;omega
 ·rw [show keysP own acc=keysL (acc :: own.map Itm.acc) from rfl,if_neg h]
  rw [hm,not_or] at h
  rw [accS_out h.2,if_neg h.1];rfl
def sumK (f:Int→Int):List Int→Int
 | []=>0
 | k :: t=>f k+sumK f t
theorem sumK_add (f h:Int→Int) (l:List Int):sumK (fun c=>f c+h c) l=sumK f l+sumK h l:=by
 induction l with
 | nil=>rfl
 | cons k t ih=>simp only [sumK];rw [ih];omega
theorem sumK_one (a v:Int):∀ {l:List Int},l.Nodup→sumK (fun c=>if a=c then v else 0) l=if a∈l then v else 0
 | [],_=>rfl
 | k :: t,h=>by
  rw [List.nodup_cons] at h
  simp only [sumK]
  rw [sumK_one a v h.2]
  by_cases hk:a=k
  ·subst hk
   rw [if_pos rfl,if_neg h.1,if_pos (List.mem_cons_self ..),Int.add_zero]
  ·rw [if_neg hk,Int.zero_add]
   by_cases hm:a∈t
   ·rw [if_pos hm,if_pos (List.mem_cons_of_mem _ hm)]
   ·rw [if_neg hm,if_neg (fun e=>(List.mem_cons.1 e).elim hk hm)]
theorem sumK_zero (l:List Int):sumK (fun _=>0) l=0:=by
 induction l with
 | nil=>rfl
 | cons k t ih=>simp only [sumK];rw [ih];rfl
theorem sumK_accS {l:List Int} (hd:l.Nodup):∀ own:List Itm,(∀ x∈own,x.acc∈l)→sumK (accS own) l=totS own
 | [],_=>sumK_zero l
 | x :: t,h=>by
  have h1:accS (x :: t)=fun c=>(if x.acc=c then x.amt else 0)+accS t c:=by funext c;rfl
  rw [h1,sumK_add,sumK_one _ _ hd,if_pos (h x (List.mem_cons_self ..)),sumK_accS hd t fun y hy=>h y (List.mem_cons_of_mem _ hy)]
  rfl
theorem prtT_parts (own:List Itm) (acc:Int) (ks:List Int):prtT (partsL own acc ks)=sumK (sumP own acc) ks:=by
 induction ks with
 | nil=>rfl
 | cons k t ih=>
  unfold partsL at *
  rw [List.map_cons,List.filter_cons]
  by_cases h0:sumP own acc k=0
  ·have:((⟨k,sumP own acc k⟩:Prt).amt != 0)=false:=by simp [h0]
   rw [this,if_neg (by simp),ih]
   simp only [sumK]
   rw [h0];omega
  ·have:((⟨k,sumP own acc k⟩:Prt).amt != 0)=true:=by simp [h0]
   rw [this,if_pos rfl,prtT,ih]
   rfl
theorem parts_zero (own:List Itm) (acc:Int):prtT (partsP own acc)=0:=by
 unfold partsP
 rw [prtT_parts]
 have hd:=asc_nodup (show Asc (keysP own acc) from keysL_asc (acc :: own.map Itm.acc))
 have h1:sumK (accS own) (keysP own acc)=totS own:=sumK_accS hd own fun x hx=>(keysP_mem own acc _).2 (.inr (List.mem_map_of_mem hx))
 have h2:sumK (fun c=>if acc=c then totS own else 0) (keysP own acc)=totS own:=by
  rw [sumK_one _ _ hd,if_pos ((keysP_mem own acc _).2 (.inl rfl))]
 have h3:(fun c=>if acc=c then totS own else 0)=fun c=>sumP own acc c+accS own c:=by
  funext c
  unfold sumP
  by_cases h:acc=c
  ·rw [if_pos h,if_pos h.symm];omega
  ·rw [if_neg h,if_neg (fun e=>h e.symm)];omega
 rw [h3,sumK_add,h1] at h2
 omega
def partsOf (l:List Pst) (i:Int) (s:List Prt):List Prt:=l.foldl (fun s x=>if x.oth=i then x.parts else s) s
theorem partsOf_snoc (l:List Pst) (x:Pst) (i:Int) (s:List Prt):partsOf (l ++ [x]) i s=if x.oth=i then x.parts else partsOf l i s:=by unfold partsOf;rw [List.foldl_append];rfl
theorem partsOf_out:∀ {l:List Pst} {i:Int} (s:List Prt),i∉l.map Pst.oth→partsOf l i s=s
 | [],_,_,_=>rfl
 | x :: t,i,s,h=>by
  rw [List.map_cons,List.mem_cons,not_or] at h
  show partsOf t i (if x.oth=i then x.parts else s)=s
  rw [if_neg (fun e=>h.1 e.symm),partsOf_out s h.2]
theorem partsOf_in:∀ {l:List Pst} {y:Pst} (s:List Prt),y∈l→(l.map Pst.oth).Nodup→partsOf l y.oth s=y.parts
 | x :: t,y,s,hm,hd=>by
  rw [List.map_cons,List.nodup_cons] at hd
  show partsOf t y.oth (if x.oth=y.oth then x.parts else s)=y.parts
  rcases List.mem_cons.1 hm with e | e
  ·subst e
   rw [if_pos rfl,partsOf_out _ hd.1]
  ·exact partsOf_in _ e hd.2
theorem psts_oth (g:Grp) (a:Int) (X:List Eli):((psts g a X).map Pst.oth).Sublist (X.map Eli.id):=by
 unfold psts
 have h:(X.map (pstE g a)).map Pst.oth=X.map Eli.id:=by rw [List.map_map];rfl
 rw [← h]
 exact List.filter_sublist.map _
theorem mem_psts {g:Grp} {a:Int} {X:List Eli} {y:Pst} (h:y∈psts g a X):∃ x∈X,y=pstE g a x∧y.parts≠[]:=by
 unfold psts at h
 obtain ⟨h1,h2⟩:=List.mem_filter.1 h
 obtain ⟨x,hx,rfl⟩:=List.mem_map.1 h1
 exact ⟨x,hx,rfl,fun e=>by rw [e] at h2;cases h2⟩
theorem eli_inj {X:List Eli} (hd:(X.map Eli.id).Nodup) {x y:Eli} (hx:x∈X) (hy:y∈X) (h:x.id=y.id):x=y:=by
 have h1:=(find_nodup Eli.id hd x.id x).2 ⟨hx,rfl⟩
 have h2:=(find_nodup Eli.id hd x.id y).2 ⟨hy,h.symm⟩
 rw [h1] at h2
 exact Option.some.inj h2
theorem parts_of_eli {g:Grp} {a:Int} {X:List Eli} (hd:(X.map Eli.id).Nodup) {x:Eli} (hx:x∈X):partsOf (psts g a X) x.id []=partsP x.own (remA g a x.own):=by
 by_cases h:(pstE g a x).parts=[]
 ·rw [partsOf_out _ (fun hm=>?_)]
  ·exact h.symm
  ·obtain ⟨y,hy,he⟩:=List.mem_map.1 hm
   obtain ⟨z,hz,rfl,hne⟩:=mem_psts hy
   obtain rfl:=eli_inj hd hz hx he
   exact hne h
 ·have hm:pstE g a x∈psts g a X:=List.mem_filter.2 ⟨List.mem_map_of_mem hx,by cases hp:(pstE g a x).parts with | nil=>exact absurd hp h | cons y t=>rfl⟩
  exact partsOf_in (y:=pstE g a x) [] hm (List.Nodup.sublist (psts_oth g a X) hd)
noncomputable def itemsR (g:Grp) (es:List JV) (hs:List Hol) (items:List Itm) (p:Int) (m:Mt):List Itm × Bool:=if eliB g es hs items (dayB g p) m then ((eliM es items m).own,true) else ([],false)
theorem left_law {g:Grp} {es:List JV} {hs:List Hol} {ms:List MV} {items:List Itm} {p:Int} (h:(postsF g es hs ms items p).2=0) {m:MV} (hm:m∈ms) {own:List Itm} (ho:itemsR g es hs items p m.x=(own,true)) :
  ∃ acc,remF g es hs ms items p m.x.id=(totS own,acc,0)∧partsOf (postsF g es hs ms items p).1 m.x.id []=partsP own acc:=by
 obtain ⟨h0,_,h2⟩:=posts_good h
 unfold itemsR at ho
 split at ho
 ·rename_i hb
  have hx:eliM es items m.x∈elisS g es hs ms items p:=elisS_mem.2 ⟨m,hm,hb,rfl⟩
  have e:(eliM es items m.x).own=own:=congrArg Prod.fst ho
  have h3:=rem_eli h0 hx
  have h4:=parts_of_eli (g:=g) (a:=dayA g p) (elisS_ids h0) hx
  rw [e] at h3 h4
  exact ⟨remA g (dayA g p) own,h3,by rw [h2];exact h4⟩
 ·exact absurd (congrArg Prod.snd ho) (by simp)
theorem exact_law {g:Grp} {es:List JV} {hs:List Hol} {ms:List MV} {items:List Itm} {p:Int} (h:(postsF g es hs ms items p).2=0) {y:Pst} (hy:y∈(postsF g es hs ms items p).1) {m:MV} (hm:m∈ms) (hid:m.x.id=y.oth) (h0:totS (itemsR g es hs items p m.x).1=0) :
  ∀ q∈y.parts,q.acc∈(itemsR g es hs items p m.x).1.map Itm.acc:=by
 obtain ⟨he,_,h2⟩:=posts_good h
 rw [h2] at hy
 obtain ⟨x,hx,rfl,_⟩:=mem_psts hy
 obtain ⟨m',hm',hb,rfl⟩:=elisS_mem.1 hx
 have hmm:m'=m:=by
  have h1:=(find_nodup (fun m:MV=>m.x.id) (allMB_ids (errI_zero he).2.2) m.x.id m).2 ⟨hm,rfl⟩
  have h2:=(find_nodup (fun m:MV=>m.x.id) (allMB_ids (errI_zero he).2.2) m.x.id m').2 ⟨hm',hid.symm⟩
  rw [h1] at h2
  exact (Option.some.inj h2).symm
 subst hmm
 have hi:itemsR g es hs items p m'.x=((eliM es items m'.x).own,true):=by unfold itemsR;rw [if_pos hb]
 rw [hi] at h0 ⊢
 simp only at h0 ⊢
 intro q hq
 change q∈partsP _ _ at hq
 unfold partsP partsL at hq
 obtain ⟨h1,h3⟩:=List.mem_filter.1 hq
 obtain ⟨c,hc,rfl⟩:=List.mem_map.1 h1
 simp only at h3 ⊢
 rcases (keysP_mem _ _ _).1 hc with e | e
 ·by_cases hn:c∈(eliM es items m'.x).own.map Itm.acc
  ·exact hn
  ·exfalso
   unfold sumP at h3
   rw [accS_out hn,h0] at h3
   simp at h3
 ·exact e
end Go.Proofs.YtoaidbhiciaeaaaGreat

end
