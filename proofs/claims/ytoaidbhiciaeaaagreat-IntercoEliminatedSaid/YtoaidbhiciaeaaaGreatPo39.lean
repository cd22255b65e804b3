/- Walks and plain facts that the claim rests on (IcR, KeyN, PrtP). No condition. -/
import Derived.Test.YtoaidbhiciaeaaaGreatPo36
import Derived.Deep.QuietTactic
import Derived.BigQuiet
import Derived.IntWalk
import Derived.Test.YtoaidbhiciaeaaaGreatPo02
import Derived.Test.YtoaidbhiciaeaaaGreatPo35
set_option linter.unusedSimpArgs false
set_option linter.unusedVariables false
set_option maxHeartbeats 16000000
section
namespace Go.Proofs.YtoaidbhiciaeaaaGreat
open Go.RowKit
def Itm.OkA (x:Itm):Prop:=I64 x.acc∧-1125899906842624≤x.amt∧x.amt≤1125899906842624
theorem totS_small {l:List Itm} (h:∀ x∈l,x.OkA) (hn:l.length≤801):-910000000000000000≤totS l∧totS l≤910000000000000000:=by
 have:=totS_bd (B:=1125899906842624) (by omega) l (fun x hx=>(h x hx).2)
 omega
theorem accS_small {l:List Itm} (c:Int) (h:∀ x∈l,x.OkA) (hn:l.length≤801):-910000000000000000≤accS l c∧accS l c≤910000000000000000:=by
 have:=accS_bd (B:=1125899906842624) (by omega) l c (fun x hx=>(h x hx).2)
 omega
theorem remA_snoc (g:Grp) (a:Int) (l:List Itm) (x:Itm):remA g a (l ++ [x])=if a≤x.date then g.rl.r13 else remA g a l:=by
 unfold remA
 rw [List.any_append]
 by_cases h:a≤x.date
 ·simp [h]
 ·simp [h]
set_option maxRecDepth 100000 in
theorem frem_any (bv:List Value) (g:Grp) (es:List JV) (hs:List Hol) (ms:List MV) (items:List Itm) (B mb:Nat) (a b:Int) (i0 l0:Int) (own:List Itm) (ao:Option Addr) (cap bo oo:Nat) (w:World) (HF:Fin w B mb bv items a b) (H:BkG w bv g es hs ms) (HR:Recs w 7 Itm.cells ao own cap bo oo) (hn:own.length≤800) (hA:∀ x∈own,x.OkA) :
  Calls Tryz.prog 36 #[.pointer (some ⟨B,0,none⟩),.agg #[.int .i64 i0,.int .i64 l0,.slice ao own.length cap]] w fun e w'=>e=.returned (.tuple #[.int .i64 (totS own),.int .i64 (remA g a own)])∧Keeps w w':=by
 obtain ⟨aoC,capC,bC,oC,aoE,capE,bE,oE,hgc,_,_⟩:=H.grp
 have g11:=HF.cell (hgc 11 _ rfl)
 have g18:=HF.cell (hgc 18 _ rfl)
 have g28:=(HF.tail H.bks.len).2.1
 have HG:Hid (∀ W,Keeps w W→W.cell? ⟨B,11,none⟩=some (.int .i64 g.rl.r6)∧W.cell? ⟨B,18,none⟩=some (.int .i64 g.rl.r13)∧W.cell? ⟨B,28,none⟩=some (.int .i64 a)):=Lib.hid (fun W hW=>⟨hW.cell g11,hW.cell g18,hW.cell g28⟩)
 have HHR:=Lib.hid HR
 have HAA:=Lib.hid hA
 have hcap:=Sl.cap HR
 have hle:=Sl.le HR
 obtain ⟨f11,f18,f28⟩:=HG.out _ ((Keeps.refl w).alloc (.cells #[.int .i64 i0,.int .i64 l0,.slice ao own.length cap] 83))
 have c2:(w.alloc (.cells #[.int .i64 i0,.int .i64 l0,.slice ao own.length cap] 83)).cell? ⟨w.heap.size,2,none⟩=some (.slice ao own.length cap):=by go_simp
 have hk0:Keeps w (w.alloc (.cells #[.int .i64 i0,.int .i64 l0,.slice ao own.length cap] 83)):=(Keeps.refl w).alloc _
 obtain ⟨W1,hW1⟩:∃ W1,w.alloc (.cells #[.int .i64 i0,.int .i64 l0,.slice ao own.length cap] 83)=W1:=⟨_,rfl⟩
 rw [hW1] at f11 f18 f28 c2 hk0
 have HK0:=Lib.hid hk0
 clear HF H HR hA hgc g11 g18 g28 hk0
 go_enter Tryz.func36,Tryz.ntmps36
 go_upto_region 1 with fail
 try rw [hW1]
 clear hW1
 go_quiet (fail)
 go_wp2_with fail
 go_loopw [6,7,20] (fun vs va vi wr=>∃ k:Nat,k≤own.length∧vi=.int .i64 k∧vs=.int .i64 (totS (own.take k))∧va=.int .i64 (remA g a (own.take k))∧Hid (Keeps w wr)) (fun _ _ vi _=>own.length - (intOf vi).toNat)
 case atStart=>exact ⟨0,Nat.zero_le _,rfl,by rw [List.take_zero];rfl,by rw [List.take_zero];rfl,Lib.hid (HK0.out.drewN _)⟩
 case round=>
  obtain ⟨k,hk,rfl,rfl,rfl,HW⟩:=hrel
  by_cases hlt:k < own.length
  ·have hr:=HHR.out.keeps HW.out
   have hix:=Sl.at hr Tryz.underlying37 Tryz.sizeOf53 k hlt
   obtain ⟨x,hx⟩:∃ x,own[k]=x:=⟨_,rfl⟩
   have c0:=hr.cell Itm.len k hlt 0 (.int .i64 x.ref.e) (by rw [hx];rfl)
   have c1:=hr.cell Itm.len k hlt 1 (.int .i64 x.ref.l) (by rw [hx];rfl)
   have c2:=hr.cell Itm.len k hlt 2 (.int .i64 x.ent) (by rw [hx];rfl)
   have c3:=hr.cell Itm.len k hlt 3 (.int .i64 x.acc) (by rw [hx];rfl)
   have c4:=hr.cell Itm.len k hlt 4 (.int .i64 x.ptn) (by rw [hx];rfl)
   have c5:=hr.cell Itm.len k hlt 5 (.int .i64 x.date) (by rw [hx];rfl)
   have c6:=hr.cell Itm.len k hlt 6 (.int .i64 x.amt) (by rw [hx];rfl)
   rw [Nat.add_zero] at c0
   have hzr:=World.block_lt_of_cell? _ _ c0
   have hT1:=totS_small (l:=own.take k) (fun q hq=>HAA.out q (List.mem_of_mem_take hq)) (by rw [List.length_take];omega)
   have hxa:=HAA.out x (by rw [← hx];exact List.getElem_mem ..)
   have hxb:=hxa.2
   have HT:Hid (totS (own.take k)+x.amt=totS (own.take (k+1))):=Lib.hid (by rw [take_snoc _ _ hlt,hx,totS_snoc])
   have HR:Hid (remA g a (own.take (k+1))=if a≤x.date then g.rl.r13 else remA g a (own.take k)):=Lib.hid (by rw [take_snoc _ _ hlt,hx,remA_snoc])
   obtain ⟨T,hT⟩:∃ T,totS (own.take k)=T:=⟨_,rfl⟩
   obtain ⟨ra,hra⟩:∃ ra,remA g a (own.take k)=ra:=⟨_,rfl⟩
   rw [hT] at hT1 HT ⊢
   rw [hra] at HR ⊢
   have hw1:wrap64 (T+x.amt)=T+x.amt:=IntWalk.wrap64_in _ (by omega)
   have hw2:IntKind.i64.wrap (T+x.amt)=T+x.amt:=IntWalk.i64_in _ (by omega)
   obtain ⟨f11,f18,f28⟩:=HG.out _ HW.out
   have hzf:=World.block_lt_of_cell? _ _ f28
   simp only at hzf
   clear hr hx hT hra hT1 hxa hxb
   by_cases hd:a≤x.date
   ·have e1:decide (a≤x.date)=true:=decide_eq_true hd
    have HR2:=Lib.hid (HR.out.trans (if_pos hd))
    clear hd
    go_wp2_with fail
    go_quiet (fail)
    go_wp2_with fail
    go_roundw
    case rel=>exact ⟨k+1,by omega,by go_num,by rw [HT.out],by rw [HR2.out],Lib.hid ((HW.out.alloc _).drewN _)⟩
    case measure=>simp [intOf];omega
   ·have e1:decide (a≤x.date)=false:=decide_eq_false hd
    have HR2:=Lib.hid (HR.out.trans (if_neg hd))
    clear hd
    go_wp2_with fail
    go_quiet (fail)
    go_wp2_with fail
    go_roundw
    case rel=>exact ⟨k+1,by omega,by go_num,by rw [HT.out],by rw [HR2.out],Lib.hid ((HW.out.alloc _).drewN _)⟩
    case measure=>simp [intOf];omega
  ·obtain rfl:k=own.length:=by omega
   go_wp2_with fail
   refine bodyPost_ret (results_tmp2 rfl _ _ _) rfl ?_
   rw [List.take_length]
   exact ⟨rfl,HW.out⟩
end Go.Proofs.YtoaidbhiciaeaaaGreat

end
section
namespace Go.Proofs.YtoaidbhiciaeaaaGreat
open Go.RowKit Go.Maps
theorem keysI_any (mb:Option Nat) (w:World):Calls Tryz.prog 48 #[.map mb] w fun e w'=>e=.returned (.func (.func 83) #[] #[.pointer (some ⟨w.heap.size,0,none⟩)])∧w.alloc (.cells #[.map mb] 116)=w':=
 (Tryz.mapKeys48 mb w).mono fun _ _ h=>⟨h.1,h.2.symm⟩
end Go.Proofs.YtoaidbhiciaeaaaGreat

end
section
namespace Go.Proofs.YtoaidbhiciaeaaaGreat
open Go.RowKit
def insP (x:Prt):List Prt→List Prt
 | []=>[x]
 | y :: t=>if y.acc < x.acc then y :: insP x t else if y.acc=x.acc then ⟨y.acc,y.amt+x.amt⟩ :: t else x :: y :: t
def sumsR (l:List Prt):List Prt:=l.foldl (fun s x=>insP x s) []
theorem sumsR_snoc (l:List Prt) (x:Prt):sumsR (l ++ [x])=insP x (sumsR l):=by unfold sumsR;rw [List.foldl_append];rfl
theorem insP_len (x:Prt) (l:List Prt):(insP x l).length≤l.length+1:=by
 induction l with
 | nil=>exact Nat.le_refl _
 | cons y t ih=>unfold insP;split <;> (try split) <;> simp <;> omega
theorem insP_at {x:Prt}:∀ {l:List Prt} {k:Nat},k≤l.length→(∀ j (hj:j < l.length),j < k→l[j].acc < x.acc)→(∀ hk:k < l.length,¬ l[k].acc < x.acc) →
  insP x l=(match l[k]? with | some y=>if y.acc=x.acc then l.set k ⟨y.acc,y.amt+x.amt⟩ else l.take k ++ x :: l.drop k | none=>l ++ [x])
 | [],k,h,_,_=>by
  obtain rfl:k=0:=by simpa using h
  rfl
 | y :: t,0,_,_,h2=>by
  have:=h2 (by simp)
  simp only [List.getElem_cons_zero] at this
  unfold insP
  rw [if_neg this]
  simp
 | y :: t,k+1,h,h1,h2=>by
  have h0:=h1 0 (by simp) (by omega)
  simp only [List.getElem_cons_zero] at h0
  unfold insP
  rw [if_pos h0]
  have ih:=insP_at (x:=x) (l:=t) (k:=k) (by simpa using h) (fun j hj hjk=>by have:=h1 (j+1) (by simpa using hj) (by omega);simpa using this) (fun hk=>by have:=h2 (by simpa using hk);simpa using this)
  rw [ih]
  simp only [List.getElem?_cons_succ]
  cases t[k]? with
  | none=>rfl
  | some z=>by_cases h:z.acc=x.acc <;> simp [h]
def psumP (l:List Prt) (c:Int):Int:=match l with
 | []=>0
 | x :: t=>(if x.acc=c then x.amt else 0)+psumP t c
theorem psumP_snoc (l:List Prt) (x:Prt) (c:Int):psumP (l ++ [x]) c=psumP l c+if x.acc=c then x.amt else 0:=by
 induction l with
 | nil=>simp [psumP]
 | cons y t ih=>rw [List.cons_append,psumP,ih,psumP];omega
theorem asc_ext:∀ {l m:List Int},Asc l→Asc m→(∀ z,z∈l↔z∈m)→l=m
 | [],[],_,_,_=>rfl
 | [],y :: t,_,_,h=>absurd ((h y).2 (List.mem_cons_self ..)) List.not_mem_nil
 | x :: s,[],_,_,h=>absurd ((h x).1 (List.mem_cons_self ..)) List.not_mem_nil
 | x :: s,y :: t,hl,hm,h=>by
  unfold Asc at hl hm
  rw [List.pairwise_cons] at hl hm
  have hxy:x=y:=by
   rcases List.mem_cons.1 ((h x).1 (List.mem_cons_self ..)) with e | e
   ·exact e
   ·rcases List.mem_cons.1 ((h y).2 (List.mem_cons_self ..)) with e2 | e2
    ·exact e2.symm
    ·have:=hl.1 y e2;have:=hm.1 x e;omega
  subst hxy
  refine congrArg (x :: ·) (asc_ext hl.2 hm.2 fun z=>?_)
  constructor
  ·intro hz
   rcases List.mem_cons.1 ((h z).1 (List.mem_cons_of_mem _ hz)) with e | e
   ·subst e;have:=hl.1 z hz;omega
   ·exact e
  ·intro hz
   rcases List.mem_cons.1 ((h z).2 (List.mem_cons_of_mem _ hz)) with e | e
   ·subst e;have:=hm.1 z hz;omega
   ·exact e
theorem keysL_snoc (l:List Int) (x:Int):keysL (l ++ [x])=insK x (keysL l):=
 asc_ext (keysL_asc _) (insK_asc (keysL_asc _)) fun z=>by
  rw [keysL_mem,insK_mem,keysL_mem,List.mem_append,List.mem_singleton]
  exact or_comm
theorem insP_map (x:Prt) (f:Int→Int):∀ {ks:List Int},Asc ks→(x.acc∉ks→f x.acc=0) →
  insP x (ks.map (fun c=>(⟨c,f c⟩:Prt)))=(insK x.acc ks).map (fun c=>(⟨c,f c+if x.acc=c then x.amt else 0⟩:Prt))
 | [],_,h=>by
  have:=h List.not_mem_nil
  simp [insP,insK,this]
 | y :: t,ha,h=>by
  unfold Asc at ha
  rw [List.pairwise_cons] at ha
  rw [List.map_cons]
  unfold insP insK
  simp only
  have hrest:∀ (s:List Int),x.acc∉s→s.map (fun c=>(⟨c,f c+if x.acc=c then x.amt else 0⟩:Prt))=s.map (fun c=>(⟨c,f c⟩:Prt)):=fun s hs=>
   List.map_congr_left fun c hc=>by rw [if_neg (fun e:x.acc=c=>hs (e ▸ hc)),Int.add_zero]
  by_cases h1:y < x.acc
  ·rw [if_pos h1,if_pos h1,List.map_cons,if_neg (by omega),Int.add_zero,insP_map x f ha.2 (fun hn=>h (fun hm=>by
    rcases List.mem_cons.1 hm with e | e
    ·omega
    ·exact hn e))]
  ·rw [if_neg h1,if_neg h1]
   have hnt:x.acc∉t:=fun hm=>by have:=ha.1 _ hm;omega
   by_cases h2:y=x.acc
   ·rw [if_pos h2,if_pos h2,List.map_cons,hrest t hnt,if_pos h2.symm]
   ·rw [if_neg h2,if_neg h2,List.map_cons,List.map_cons,hrest t hnt,if_pos (rfl:x.acc=x.acc),if_neg (fun e:x.acc=y=>h2 e.symm),Int.add_zero]
    have:=h (fun hm=>by
     rcases List.mem_cons.1 hm with e | e
     ·exact h2 e.symm
     ·exact hnt e)
    simp [this]
theorem psumP_out (l:List Prt) (c:Int) (h:c∉l.map Prt.acc):psumP l c=0:=by
 induction l with
 | nil=>rfl
 | cons y t ih=>
  rw [List.map_cons,List.mem_cons,not_or] at h
  rw [psumP,if_neg (fun e=>h.1 e.symm),ih h.2];rfl
theorem snoc_cases {α:Type} (P:List α→Prop) (h0:P []) (h1:∀ l x,P l→P (l ++ [x])) (l:List α):P l:=by
 have:∀ m:List α,P m.reverse:=fun m=>by
  induction m with
  | nil=>exact h0
  | cons a t ih=>rw [List.reverse_cons];exact h1 _ _ ih
 have:=this l.reverse
 rwa [List.reverse_reverse] at this
theorem sumsR_eq (l:List Prt):sumsR l=(keysL (l.map Prt.acc)).map (fun c=>(⟨c,psumP l c⟩:Prt)):=by
 refine snoc_cases (fun l=>sumsR l=(keysL (l.map Prt.acc)).map (fun c=>(⟨c,psumP l c⟩:Prt))) rfl (fun l x ih=>?_) l
 rw [sumsR_snoc,ih,insP_map x (psumP l) (keysL_asc _) (fun hn=>psumP_out _ _ (fun hm=>hn ((keysL_mem _ _).2 hm))),List.map_append,List.map_singleton,keysL_snoc]
 exact List.map_congr_left fun c _=>by rw [psumP_snoc]
def rawP (own:List Itm) (acc:Int):List Prt:=⟨acc,totS own⟩ :: own.map (fun i=>(⟨i.acc,-i.amt⟩:Prt))
theorem rawP_acc (own:List Itm) (acc:Int):(rawP own acc).map Prt.acc=acc :: own.map Itm.acc:=by unfold rawP;rw [List.map_cons,List.map_map];rfl
theorem rawP_sum (own:List Itm) (acc c:Int):psumP (rawP own acc) c=sumP own acc c:=by
 unfold rawP sumP
 rw [psumP]
 have:∀ l:List Itm,psumP (l.map (fun i=>(⟨i.acc,-i.amt⟩:Prt))) c=-accS l c:=fun l=>by
  induction l with
  | nil=>rfl
  | cons y t ih=>rw [List.map_cons,psumP,ih,accS];simp only;split <;> omega
 rw [this]
 simp only
 by_cases h:acc=c
 ·rw [if_pos h,if_pos h.symm];omega
 ·rw [if_neg h,if_neg (fun e=>h e.symm)];omega
theorem rawP_sums (own:List Itm) (acc:Int):sumsR (rawP own acc)=(keysP own acc).map (fun c=>(⟨c,sumP own acc c⟩:Prt)):=by
 rw [sumsR_eq,rawP_acc]
 exact List.map_congr_left fun c _=>by rw [rawP_sum]
def partsR (l:List Prt):List Prt × Bool:=if (sumsR l).all (fun x=>amtB x.amt) then ((sumsR l).filter (fun x=>x.amt != 0),true) else ([],false)
theorem partsR_raw (own:List Itm) (acc:Int):partsR (rawP own acc)=if okPs own acc then (partsP own acc,true) else ([],false):=by
 unfold partsR okPs partsP partsL
 rw [rawP_sums,List.all_map]
 rfl
def insM (x:MV) (l:List MV):List MV:=l.takeWhile (fun y=>decide (y.x.id < x.x.id)) ++ x :: l.dropWhile (fun y=>decide (y.x.id < x.x.id))
def sortM (l:List MV):List MV:=l.foldl (fun s x=>insM x s) []
theorem sortM_snoc (l:List MV) (x:MV):sortM (l ++ [x])=insM x (sortM l):=by unfold sortM;rw [List.foldl_append];rfl
theorem insM_at {x:MV} {l:List MV} {k:Nat} (hk:k≤l.length) (h1:∀ j (hj:j < l.length),j < k→l[j].x.id < x.x.id) (h2:∀ h:k < l.length,¬ l[k].x.id < x.x.id):insM x l=l.take k ++ x :: l.drop k:=by
 have ht:l.takeWhile (fun y=>decide (y.x.id < x.x.id))=l.take k∧l.dropWhile (fun y=>decide (y.x.id < x.x.id))=l.drop k:=by
  induction l generalizing k with
  | nil=>simp
  | cons y t ih=>
   cases k with
   | zero=>
    have:=h2 (by simp)
    simp only [List.getElem_cons_zero] at this
    simp [List.takeWhile,List.dropWhile,this]
   | succ k=>
    have h0:=h1 0 (by simp) (by omega)
    simp only [List.getElem_cons_zero] at h0
    have:=ih (k:=k) (by simpa using hk) (fun j hj hjk=>by have:=h1 (j+1) (by simpa using hj) (by omega);simpa using this) (fun hk=>by have:=h2 (by simpa using hk);simpa using this)
    simp [List.takeWhile,List.dropWhile,h0,this.1,this.2]
 unfold insM
 rw [ht.1,ht.2]
theorem insM_perm (x:MV) (l:List MV):(insM x l).Perm (x :: l):=by
 unfold insM
 refine List.perm_middle.trans ?_
 rw [List.takeWhile_append_dropWhile]
theorem sortM_perm (l:List MV):(sortM l).Perm l:=by
 refine snoc_cases (fun l=>(sortM l).Perm l) (List.Perm.refl _) (fun l x ih=>?_) l
 rw [sortM_snoc]
 exact (insM_perm x _).trans ((ih.cons x).trans (List.perm_append_singleton x l).symm)
def MvAsc (l:List MV):Prop:=l.Pairwise (fun x y=>x.x.id≤y.x.id)
theorem insM_asc {x:MV}:∀ {l:List MV},MvAsc l→MvAsc (insM x l)
 | [],_=>by unfold insM;exact List.pairwise_singleton _ _
 | y :: t,h=>by
  unfold MvAsc at h
  rw [List.pairwise_cons] at h
  by_cases hlt:y.x.id < x.x.id
  ·have he:insM x (y :: t)=y :: insM x t:=by unfold insM;simp [List.takeWhile,List.dropWhile,hlt]
   rw [he]
   refine List.pairwise_cons.2 ⟨fun z hz=>?_,insM_asc h.2⟩
   rcases List.mem_cons.1 ((insM_perm x t).mem_iff.1 hz) with e | e
   ·subst e;omega
   ·exact h.1 z e
  ·have he:insM x (y :: t)=x :: y :: t:=by unfold insM;simp [List.takeWhile,List.dropWhile,hlt]
   rw [he]
   refine List.pairwise_cons.2 ⟨fun z hz=>?_,List.pairwise_cons.2 h⟩
   rcases List.mem_cons.1 hz with e | e
   ·subst e;omega
   ·have:=h.1 z e;omega
theorem sortM_asc (l:List MV):MvAsc (sortM l):=snoc_cases (fun l=>MvAsc (sortM l)) List.Pairwise.nil (fun l x ih=>by rw [sortM_snoc];exact insM_asc ih) l
theorem insM_len (x:MV) (l:List MV):(insM x l).length=l.length+1:=by rw [(insM_perm x l).length_eq];rfl
theorem sortM_len (l:List MV):(sortM l).length=l.length:=(sortM_perm l).length_eq
theorem elis_sort (g:Grp) (es:List JV) (hs:List Hol) (items:List Itm) (d:Int) (ms:List MV) (hd:(ms.map (fun m=>m.x.id)).Nodup):elisR g es hs items d (sortM ms)=sortE (elisR g es hs items d ms):=by
 refine sortE_eq (((sortM_perm ms).filter _).map _) ?_ ?_
 ·unfold elisR
  rw [List.map_map]
  exact List.Nodup.sublist ((List.filter_sublist (l:=ms)).map _) hd
 ·unfold elisR EliAsc
  rw [List.pairwise_map]
  exact ((sortM_asc ms).sublist List.filter_sublist).imp fun h=>h
end Go.Proofs.YtoaidbhiciaeaaaGreat

end
