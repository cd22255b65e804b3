/- Walks and plain facts that the claim rests on (ProperW, HolDates, HolValP, KeyB, HolKey, HolSmall2, HolItP). No condition. -/
import Derived.Test.YtoaidbhiciaeaaaGreatPo06
import Derived.Test.YtoaidbhiciaeaaaGreatPo02
import Derived.Test.YtoaidbhiciaeaaaGreatPo01
import Derived.Deep.RegionLaw
import Derived.Deep.QuietTactic
import Derived.BigQuiet
import Derived.Test.YtoaidbhiciaeaaaGreatPo03
import Derived.DeepKeys4
import Derived.RangeFuncNested
import Derived.RangeFuncBound
import Derived.RangeFuncCalls
import Derived.RangeFuncLeaves
set_option linter.unusedSimpArgs false
set_option linter.unusedVariables false
set_option maxHeartbeats 16000000
section
namespace Go.Proofs.YtoaidbhiciaeaaaGreat
open Go.RowKit
theorem find_none (l:List Acc) (code:Int) (ao:Option Addr) (cap b o:Nat) (w:World) (H:Accs w ao l cap b o) (hf:findA l code=none) :
  Calls Tryz.prog 169 #[.slice ao l.length cap,.int .i64 code] w fun e w'=>e=.returned (.tuple #[.agg #[.int .i64 0,.int .i64 0,.int .i64 0,.int .i64 0],.bool false])∧Keeps w w':=by
 have:=rfind_any l code ao cap b o w H;rw [hf] at this;exact this
theorem find_some (l:List Acc) (code:Int) (p:Acc) (ao:Option Addr) (cap b o:Nat) (w:World) (H:Accs w ao l cap b o) (hf:findA l code=some p) :
  Calls Tryz.prog 169 #[.slice ao l.length cap,.int .i64 code] w fun e w'=>e=.returned (.tuple #[.agg #[.int .i64 p.code,.int .i64 p.kind,.int .i64 p.basis,.int .i64 p.parent],.bool true])∧Keeps w w':=by
 have:=rfind_any l code ao cap b o w H;rw [hf] at this;exact this
set_option maxRecDepth 100000 in
theorem rproper_bad (l:List Acc) (a:Acc) (group:Bool) (v:Value) (w:World) (hb:basicB a group=false) :
  Calls Tryz.prog 167 #[v,.agg #[.int .i64 a.code,.int .i64 a.kind,.int .i64 a.basis,.int .i64 a.parent],.bool group] w fun e w'=>e=.returned (.bool false)∧Keeps w w':=by
 by_cases h1:1≤a.code∧a.code≤99999∧1≤a.kind∧a.kind≤5
 ·obtain ⟨h1,h2,h3,h4⟩:=h1
  cases group with
  | true=>
   have h5:a.basis < 1∨3 < a.basis:=by
    simp [basicB,h1,h2,h3,h4] at hb;omega
   clear hb
   rcases h5 with h5 | h5
   ·go_enter Tryz.func167,Tryz.ntmps167
    go_wp2
    go_ret
    exact ⟨rfl,(Keeps.refl w).alloc _⟩
   ·go_enter Tryz.func167,Tryz.ntmps167
    go_wp2
    go_ret
    exact ⟨rfl,(Keeps.refl w).alloc _⟩
  | false=>
   have h5:a.basis≠0:=by
    simp [basicB,h1,h2,h3,h4] at hb;exact hb
   have e5:(a.basis != 0)=true:=by simpa using h5
   clear hb h5
   go_enter Tryz.func167,Tryz.ntmps167
   go_wp2
   go_ret
   exact ⟨rfl,(Keeps.refl w).alloc _⟩
 ·clear hb
  go_enter Tryz.func167,Tryz.ntmps167
  by_cases g1:a.code < 1
  ·go_wp2
   go_ret
   exact ⟨rfl,(Keeps.refl w).alloc _⟩
  ·by_cases g2:99999 < a.code
   ·go_wp2
    go_ret
    exact ⟨rfl,(Keeps.refl w).alloc _⟩
   ·by_cases g3:a.kind < 1
    ·go_wp2
     go_ret
     exact ⟨rfl,(Keeps.refl w).alloc _⟩
    ·have g4:5 < a.kind:=by omega
     clear h1
     go_wp2
     go_ret
     exact ⟨rfl,(Keeps.refl w).alloc _⟩
set_option maxRecDepth 100000 in
theorem rproper_any (l:List Acc) (a:Acc) (group:Bool) (ao:Option Addr) (cap b o:Nat) (w:World) (H:Accs w ao l cap b o) :
  Calls Tryz.prog 167 #[.slice ao l.length cap,.agg #[.int .i64 a.code,.int .i64 a.kind,.int .i64 a.basis,.int .i64 a.parent],.bool group] w fun e w'=>e=.returned (.bool (properRB l a group))∧Keeps w w':=by
 cases hb:basicB a group with
 | false=>simp only [properRB,hb,Bool.false_and];exact rproper_bad l a group _ w hb
 | true=>
  simp only [properRB,hb,Bool.true_and]
  simp only [basicB,Bool.and_eq_true,decide_eq_true_eq] at hb
  obtain ⟨⟨⟨⟨h1,h2⟩,h3⟩,h4⟩,h5⟩:=hb
  by_cases hp:a.parent=0
  ·have ep:(a.parent == 0)=true:=by simp [hp]
   rw [ep,Bool.true_or]
   clear ep
   cases group with
   | true=>
    simp only [if_true,Bool.and_eq_true,decide_eq_true_eq] at h5
    obtain ⟨h5,h6⟩:=h5
    go_enter Tryz.func167,Tryz.ntmps167
    go_wp2
    go_ret
    exact ⟨rfl,(Keeps.refl w).alloc _⟩
   | false=>
    simp only [Bool.false_eq_true,if_false,decide_eq_true_eq] at h5
    go_enter Tryz.func167,Tryz.ntmps167
    go_wp2
    go_ret
    exact ⟨rfl,(Keeps.refl w).alloc _⟩
  ·have ep:(a.parent == 0)=false:=by simpa using hp
   rw [ep,Bool.false_or]
   cases hf:findA l a.parent with
   | none=>
    have er:aboveB l a=false:=by unfold aboveB;rw [hf]
    rw [er]
    cases group with
    | true=>
     simp only [if_true,Bool.and_eq_true,decide_eq_true_eq] at h5
     obtain ⟨h5,h6⟩:=h5
     go_enter Tryz.func167,Tryz.ntmps167
     go_wp2_with (go_at_call 169;refine (find_none l a.parent ao cap b o _ (H.keeps ((Keeps.refl w).alloc _)) hf).mono ?_;rintro e1 w1 ⟨rfl,hk⟩;have d0:=hk.cell (p:=⟨w.heap.size,0,none⟩) (v:=.int .i64 a.code) (by go_simp);have d1:=hk.cell (p:=⟨w.heap.size,1,none⟩) (v:=.int .i64 a.kind) (by go_simp);have hz:=World.block_lt_of_cell? _ _ d0;have K:=Lib.hid (((Keeps.refl w).alloc _).trans hk);clear hk)
     go_ret
     exact ⟨rfl,K.out.alloc _⟩
    | false=>
     simp only [Bool.false_eq_true,if_false,decide_eq_true_eq] at h5
     go_enter Tryz.func167,Tryz.ntmps167
     go_wp2_with (go_at_call 169;refine (find_none l a.parent ao cap b o _ (H.keeps ((Keeps.refl w).alloc _)) hf).mono ?_;rintro e1 w1 ⟨rfl,hk⟩;have d0:=hk.cell (p:=⟨w.heap.size,0,none⟩) (v:=.int .i64 a.code) (by go_simp);have d1:=hk.cell (p:=⟨w.heap.size,1,none⟩) (v:=.int .i64 a.kind) (by go_simp);have hz:=World.block_lt_of_cell? _ _ d0;have K:=Lib.hid (((Keeps.refl w).alloc _).trans hk);clear hk)
     go_ret
     exact ⟨rfl,K.out.alloc _⟩
   | some p=>
    have er:aboveB l a=(p.code != a.code && p.kind == a.kind):=by unfold aboveB;rw [hf]
    rw [er]
    clear er
    cases g1:(p.code != a.code) with
    | false=>
     rw [Bool.false_and]
     cases group with
     | true=>
      simp only [if_true,Bool.and_eq_true,decide_eq_true_eq] at h5
      obtain ⟨h5,h6⟩:=h5
      go_enter Tryz.func167,Tryz.ntmps167
      go_wp2_with (go_at_call 169;refine (find_some l a.parent p ao cap b o _ (H.keeps ((Keeps.refl w).alloc _)) hf).mono ?_;rintro e1 w1 ⟨rfl,hk⟩;have d0:=hk.cell (p:=⟨w.heap.size,0,none⟩) (v:=.int .i64 a.code) (by go_simp);have d1:=hk.cell (p:=⟨w.heap.size,1,none⟩) (v:=.int .i64 a.kind) (by go_simp);have hz:=World.block_lt_of_cell? _ _ d0;have K:=Lib.hid (((Keeps.refl w).alloc _).trans hk);clear hk)
      go_ret
      exact ⟨rfl,K.out.alloc _⟩
     | false=>
      simp only [Bool.false_eq_true,if_false,decide_eq_true_eq] at h5
      go_enter Tryz.func167,Tryz.ntmps167
      go_wp2_with (go_at_call 169;refine (find_some l a.parent p ao cap b o _ (H.keeps ((Keeps.refl w).alloc _)) hf).mono ?_;rintro e1 w1 ⟨rfl,hk⟩;have d0:=hk.cell (p:=⟨w.heap.size,0,none⟩) (v:=.int .i64 a.code) (by go_simp);have d1:=hk.cell (p:=⟨w.heap.size,1,none⟩) (v:=.int .i64 a.kind) (by go_simp);have hz:=World.block_lt_of_cell? _ _ d0;have K:=Lib.hid (((Keeps.refl w).alloc _).trans hk);clear hk)
      go_ret
      exact ⟨rfl,K.out.alloc _⟩
    | true=>
     rw [Bool.true_and]
     cases g2:(p.kind == a.kind) with
     | false=>
      cases group with
      | true=>
       simp only [if_true,Bool.and_eq_true,decide_eq_true_eq] at h5
       obtain ⟨h5,h6⟩:=h5
       go_enter Tryz.func167,Tryz.ntmps167
       go_wp2_with (go_at_call 169;refine (find_some l a.parent p ao cap b o _ (H.keeps ((Keeps.refl w).alloc _)) hf).mono ?_;rintro e1 w1 ⟨rfl,hk⟩;have d0:=hk.cell (p:=⟨w.heap.size,0,none⟩) (v:=.int .i64 a.code) (by go_simp);have d1:=hk.cell (p:=⟨w.heap.size,1,none⟩) (v:=.int .i64 a.kind) (by go_simp);have hz:=World.block_lt_of_cell? _ _ d0;have K:=Lib.hid (((Keeps.refl w).alloc _).trans hk);clear hk)
       go_ret
       exact ⟨rfl,K.out.alloc _⟩
      | false=>
       simp only [Bool.false_eq_true,if_false,decide_eq_true_eq] at h5
       go_enter Tryz.func167,Tryz.ntmps167
       go_wp2_with (go_at_call 169;refine (find_some l a.parent p ao cap b o _ (H.keeps ((Keeps.refl w).alloc _)) hf).mono ?_;rintro e1 w1 ⟨rfl,hk⟩;have d0:=hk.cell (p:=⟨w.heap.size,0,none⟩) (v:=.int .i64 a.code) (by go_simp);have d1:=hk.cell (p:=⟨w.heap.size,1,none⟩) (v:=.int .i64 a.kind) (by go_simp);have hz:=World.block_lt_of_cell? _ _ d0;have K:=Lib.hid (((Keeps.refl w).alloc _).trans hk);clear hk)
       go_ret
       exact ⟨rfl,K.out.alloc _⟩
     | true=>
      cases group with
      | true=>
       simp only [if_true,Bool.and_eq_true,decide_eq_true_eq] at h5
       obtain ⟨h5,h6⟩:=h5
       go_enter Tryz.func167,Tryz.ntmps167
       go_wp2_with (go_at_call 169;refine (find_some l a.parent p ao cap b o _ (H.keeps ((Keeps.refl w).alloc _)) hf).mono ?_;rintro e1 w1 ⟨rfl,hk⟩;have d0:=hk.cell (p:=⟨w.heap.size,0,none⟩) (v:=.int .i64 a.code) (by go_simp);have d1:=hk.cell (p:=⟨w.heap.size,1,none⟩) (v:=.int .i64 a.kind) (by go_simp);have hz:=World.block_lt_of_cell? _ _ d0;have K:=Lib.hid (((Keeps.refl w).alloc _).trans hk);clear hk)
       go_ret
       exact ⟨rfl,K.out.alloc _⟩
      | false=>
       simp only [Bool.false_eq_true,if_false,decide_eq_true_eq] at h5
       go_enter Tryz.func167,Tryz.ntmps167
       go_wp2_with (go_at_call 169;refine (find_some l a.parent p ao cap b o _ (H.keeps ((Keeps.refl w).alloc _)) hf).mono ?_;rintro e1 w1 ⟨rfl,hk⟩;have d0:=hk.cell (p:=⟨w.heap.size,0,none⟩) (v:=.int .i64 a.code) (by go_simp);have d1:=hk.cell (p:=⟨w.heap.size,1,none⟩) (v:=.int .i64 a.kind) (by go_simp);have hz:=World.block_lt_of_cell? _ _ d0;have K:=Lib.hid (((Keeps.refl w).alloc _).trans hk);clear hk)
       go_ret
       exact ⟨rfl,K.out.alloc _⟩
end Go.Proofs.YtoaidbhiciaeaaaGreat

end
section
namespace Go.Proofs.YtoaidbhiciaeaaaGreat
open Go.RowKit
def IsDates (l:List Hol) (xs:List Int):Prop:=Asc xs∧∀ x,x∈xs↔∃ a∈l,a.date=x
theorem IsDates.eq {l:List Hol} {xs ys:List Int} (h:IsDates l xs) (h2:IsDates l ys):xs=ys:=h.1.eq h2.1 fun x=>(h.2 x).trans (h2.2 x).symm
def DatesOut (w:World) (l:List Hol) (e:Ending) (w':World):Prop:=∃ v xs,e=.returned v∧IntL w' v xs∧IsDates l xs∧Keeps w w'
def seenI (l:List Int) (x:Int):Option Value:=if l.contains x then some (.bool true) else none
theorem seenI_snoc (l:List Int) (a:Int):seenI (l ++ [a]) a=some (.bool true)∧∀ c,c≠a→seenI (l ++ [a]) c=seenI l c:=by
 unfold seenI
 refine ⟨by simp,fun c hc=>by simp [hc]⟩
theorem seenI_isSome (l:List Int) (x:Int):(seenI l x).isSome=true↔x∈l:=by
 unfold seenI
 by_cases h:x∈l <;> simp [h]
theorem elemInt:ElemOf Tryz.prog 69 3 (.int .i64 0) 1 8:=⟨Tryz.underlying69,by kernel_rfl,rfl,by omega⟩
theorem IsDates.same {l:List Hol} {a:Hol} {xs:List Int} (h:IsDates l xs) {k:Nat} (hk:k < xs.length) (he:xs[k]=a.date):IsDates (l ++ [a]) xs:=by
 refine ⟨h.1,fun x=>?_⟩
 rw [h.2]
 constructor
 ·rintro ⟨c,hc,rfl⟩;exact ⟨c,by simp [hc],rfl⟩
 ·rintro ⟨c,hc,rfl⟩
  rcases List.mem_append.1 hc with hc | hc
  ·exact ⟨c,hc,rfl⟩
  ·simp at hc;subst hc
   exact (h.2 _).1 (he ▸ List.getElem_mem hk)
theorem asc_insert {xs:List Int} (h:Asc xs) {k:Nat} {d:Int} (hk:k≤xs.length) (h1:∀ j (hj:j < xs.length),j < k→xs[j] < d) (h2:∀ hk:k < xs.length,d < xs[k]):Asc (xs.take k ++ [d] ++ xs.drop k):=by
 unfold Asc at *
 rw [List.append_assoc,List.pairwise_append]
 have h3:∀ x∈xs.take k,x < d:=fun x hx=>by
  obtain ⟨j,hj,rfl⟩:=List.getElem_of_mem hx
  rw [List.getElem_take]
  rw [List.length_take] at hj
  exact h1 j (by omega) (by omega)
 have h4:∀ x∈xs.drop k,d < x:=fun x hx=>by
  obtain ⟨j,hj,rfl⟩:=List.getElem_of_mem hx
  rw [List.getElem_drop]
  rw [List.length_drop] at hj
  have h5:=h2 (by omega)
  rcases Nat.eq_zero_or_pos j with rfl | hj0
  ·simpa using h5
  ·have:=(List.pairwise_iff_getElem.1 h) k (k+j) (by omega) (by omega) (by omega)
   omega
 refine ⟨h.sublist (List.take_sublist _ _),?_,fun a ha b hb=>?_⟩
 ·rw [List.singleton_append,List.pairwise_cons]
  exact ⟨h4,h.sublist (List.drop_sublist _ _)⟩
 ·rw [List.singleton_append,List.mem_cons] at hb
  rcases hb with rfl | hb
  ·exact h3 a ha
  ·have:=h3 a ha;have:=h4 b hb;omega
theorem mem_insert {xs:List Int} {k:Nat} {d x:Int}:x∈xs.take k ++ [d] ++ xs.drop k↔x=d∨x∈xs:=by
 have:x∈xs↔x∈xs.take k∨x∈xs.drop k:=by rw [← List.mem_append,List.take_append_drop]
 rw [this,List.mem_append,List.mem_append,List.mem_singleton]
 constructor
 ·rintro ((h | h) | h);exact .inr (.inl h);exact .inl h;exact .inr (.inr h)
 ·rintro (h | h | h);exact .inl (.inr h);exact .inl (.inl h);exact .inr h
theorem IsDates.insert {l:List Hol} {a:Hol} {xs:List Int} (h:IsDates l xs) {k:Nat} (hk:k≤xs.length) (h1:∀ j (hj:j < xs.length),j < k→xs[j] < a.date) (h2:∀ hk:k < xs.length,a.date < xs[k]):IsDates (l ++ [a]) (xs.take k ++ [a.date] ++ xs.drop k):=by
 refine ⟨asc_insert h.1 hk h1 h2,fun x=>?_⟩
 rw [mem_insert,h.2]
 constructor
 ·rintro (rfl | ⟨c,hc,rfl⟩)
  ·exact ⟨a,by simp,rfl⟩
  ·exact ⟨c,by simp [hc],rfl⟩
 ·rintro ⟨c,hc,rfl⟩
  rcases List.mem_append.1 hc with hc | hc
  ·exact .inr ⟨c,hc,rfl⟩
  ·simp at hc;subst hc;exact .inl rfl
set_option maxRecDepth 100000 in
theorem hdates_any (ao:Option Addr) (l:List Hol) (cap b o:Nat) (w:World) (H:Hols w ao l cap b o) (hlen:l.length≤1000) (hok:∀ x∈l,I64 x.date) :
  Calls Tryz.prog 67 #[.slice ao l.length cap] w (DatesOut w l):=by
 have hcap:=Sl.cap H
 have hle:=Sl.le H
 have hmm:=@run_makeMap Tryz.prog
 have HO:=Lib.hid hok
 have HH:=Lib.hid H
 clear hok H
 go_enter Tryz.func67,Tryz.ntmps67
 go_wp2_with fail
 go_loopw [9] (fun vi wr=>∃ k:Nat,k≤l.length∧vi=.int .i64 k∧Hid (Keeps w wr∧VMap intK wr w.heap.size k (seenI ((l.take k).map Hol.date)))) (fun vi _=>l.length - (intOf vi).toNat)
 case atStart=>exact ⟨0,Nat.zero_le _,rfl,Lib.hid ⟨(Keeps.refl w).alloc _,VMap.made intK w⟩⟩
 case round=>
  obtain ⟨k,hk,rfl,HW⟩:=hrel
  by_cases hlt:k < l.length
  ·have HLk:=HH.out.keeps HW.out.1
   have hix:=Sl.at HLk Tryz.underlying32 Tryz.sizeOf101 k hlt
   have c0:=HLk.cell Hol.len k hlt 0 _ rfl
   have c1:=HLk.cell Hol.len k hlt 1 _ rfl
   have c2:=HLk.cell Hol.len k hlt 2 _ rfl
   have c3:=HLk.cell Hol.len k hlt 3 _ rfl
   simp only [Nat.add_zero] at c0
   have hbl:=World.block_lt_of_cell? wr _ c0
   have HOk:=Lib.hid (HO.out _ (List.getElem_mem hlt))
   have HT:Hid ((l.take (k+1)).map Hol.date=(l.take k).map Hol.date ++ [l[k].date]):=Lib.hid (by rw [take_snoc l k hlt,List.map_append];rfl)
   clear HLk
   go_wp2_with (refine wpList_vstore (K:=intK) rfl _ _ _ 140 rfl Tryz.underlying140 w.heap.size k rfl (HW.out.2.alloc _) (by unfold maxLen;omega) l[k].date HOk.out rfl (.bool true) rfl (seenI ((l.take (k+1)).map Hol.date)) (by rw [HT.out];exact (seenI_snoc _ _).1) (fun d _ hd=>by rw [HT.out];exact (seenI_snoc _ _).2 d hd) ?_;intro w3 hm3 hg3)
   have HW3:Hid (Keeps w w3∧VMap intK w3 w.heap.size (k+1) (seenI ((l.take (k+1)).map Hol.date))):=Lib.hid ⟨Below.grown (HW.out.1.alloc _) hg3 (by have:=HW.out.1.size;simp;omega) (fun j hj=>by cases hj;omega),hm3⟩
   clear hm3 hg3 HW
   go_wp2_with fail
   go_roundw
   case rel=>exact ⟨k+1,by omega,by go_num,HW3⟩
   case measure=>simp [intOf];omega
  ·obtain rfl:k=l.length:=by omega
   go_wp2_with (first | (go_at_call 110;refine (keysB_any _ _).mono ?_;rintro e w2 ⟨rfl,rfl⟩) | (go_at_call 47;refine (sortedB_any w.heap.size l.length _ _ _ (by go_simp) (HW.out.2.alloc _) (by omega)).mono ?_;rintro e w3 ⟨v,xs,rfl,hv,hks,hk3⟩))
   go_ret
   refine ⟨v,xs,rfl,hv,⟨hks.1,fun x=>?_⟩,(HW.out.1.alloc _).trans hk3⟩
   rw [hks.2,seenI_isSome,List.take_length,List.mem_map]
   constructor
   ·rintro ⟨_,h⟩;exact h
   ·rintro ⟨a,ha,rfl⟩;exact ⟨HO.out a ha,a,ha,rfl⟩
end Go.Proofs.YtoaidbhiciaeaaaGreat

end
section
namespace Go.Proofs.YtoaidbhiciaeaaaGreat
open Go.RowKit
theorem all_range_false' {n k:Nat} {f:Nat→Bool} (hk:k < n) (h:f k=false):(List.range n).all f=false:=by
 rw [List.all_eq_false]
 exact ⟨k,by simpa using hk,by simp [h]⟩
def keyH (x:Hol):Hol:=⟨x.holder,x.entity,x.date,0⟩
def okH (n:Int) (l:List Hol) (k:Nat):Bool:=match l[k]? with
 | none=>true
 | some x=>properB n x && !((l.take k).any (fun a=>sameH a x))
theorem okH_at {n:Int} {l:List Hol} {k:Nat} (hk:k < l.length):okH n l k=(properB n l[k] && !((l.take k).any (fun a=>sameH a l[k]))):=by
 unfold okH;rw [List.getElem?_eq_getElem hk]
def sumsB (l:List Hol):Bool:=l.all (fun x=>decide (totH l x.entity x.date≤10000))
def hvalidB (n:Int) (l:List Hol):Bool:=decide (1≤n) && decide (n≤12) && decide (l.length≤200) && (List.range l.length).all (okH n l) && sumsB l
theorem hvalidB_size {n:Int} {l:List Hol} (h:¬ (1≤n∧n≤12∧l.length≤200)):hvalidB n l=false:=by
 unfold hvalidB
 by_cases h1:1≤n
 ·by_cases h2:n≤12
  ·have h3:¬ l.length≤200:=fun h3=>h ⟨h1,h2,h3⟩
   simp [h3]
  ·simp [h2]
 ·simp [h1]
theorem hvalidB_bad {n:Int} {l:List Hol} {k:Nat} (hk:k < l.length) (h:okH n l k=false):hvalidB n l=false:=by
 unfold hvalidB
 rw [all_range_false' hk h,Bool.and_false,Bool.false_and]
theorem hvalidB_rest {n:Int} {l:List Hol} (h1:1≤n) (h2:n≤12) (h3:l.length≤200) (h:∀ k < l.length,okH n l k=true):hvalidB n l=sumsB l:=by
 unfold hvalidB
 rw [decide_eq_true h1,decide_eq_true h2,decide_eq_true h3,List.all_eq_true.2 (fun k hk=>h k (List.mem_range.1 hk))]
 rfl
theorem properB_true {n:Int} {x:Hol} (h:properB n x=true):0≤x.holder∧x.holder < n∧0≤x.entity∧x.entity < n∧x.holder≠x.entity∧dateB x.date=true∧0≤x.share∧x.share≤10000:=by
 simp only [properB,Bool.and_eq_true,decide_eq_true_eq,bne_iff_ne] at h
 obtain ⟨⟨⟨⟨⟨⟨⟨a,b⟩,c⟩,d⟩,e⟩,f⟩,g⟩,i⟩:=h
 exact ⟨a,b,c,d,e,f,g,i⟩
theorem okH_proper {n:Int} {l:List Hol} (h:∀ k < l.length,okH n l k=true):∀ x∈l,properB n x=true:=by
 intro x hx
 obtain ⟨k,hk,rfl⟩:=List.getElem_of_mem hx
 have:=h k hk
 rw [okH_at hk,Bool.and_eq_true] at this
 exact this.1
theorem ShB.of {n:Int} {l:List Hol} (h:∀ x∈l,properB n x=true):ShB l:=fun x hx=>by
 have:=properB_true (h x hx)
 omega
theorem curH_congr {d d':Int} {l:List Hol} (h:∀ x∈l,(x.date≤d↔x.date≤d')):curH d l=curH d' l:=by
 induction l using snoc_ind with
 | h0=>rfl
 | h1 l x ih=>
  rw [curH_snoc,curH_snoc,ih (fun y hy=>h y (by simp [hy]))]
  have:=h x (by simp)
  by_cases h1:x.date≤d
  ·rw [if_pos h1,if_pos (this.1 h1)]
  ·rw [if_neg h1,if_neg (fun h2=>h1 (this.2 h2))]
theorem totH_congr {l:List Hol} {e d d':Int} (h:∀ x∈l,x.entity=e→(x.date≤d↔x.date≤d')):totH l e d=totH l e d':=by
 unfold totH sumAt
 congr 1
 apply List.map_congr_left
 intro k _
 unfold atH
 rw [curH_congr]
 intro x hx
 unfold ofPair at hx
 rw [List.mem_filter] at hx
 refine h x hx.1 ?_
 have:=hx.2
 unfold pairB at this
 rw [Bool.and_eq_true] at this
 simpa using this.2
theorem latest (l:List Hol) (e d:Int):(∀ x∈l,x.entity=e→¬ x.date≤d)∨∃ y∈l,y.entity=e∧y.date≤d∧∀ x∈l,x.entity=e→x.date≤d→x.date≤y.date:=by
 induction l with
 | nil=>exact .inl (fun x hx=>by cases hx)
 | cons a l ih=>
  by_cases ha:a.entity=e∧a.date≤d
  ·right
   rcases ih with ih | ⟨y,hy,h1,h2,h3⟩
   ·refine ⟨a,by simp,ha.1,ha.2,fun x hx he hd=>?_⟩
    rcases List.mem_cons.1 hx with rfl | hx
    ·exact Int.le_refl _
    ·exact absurd hd (ih x hx he)
   ·by_cases hc:y.date≤a.date
    ·refine ⟨a,by simp,ha.1,ha.2,fun x hx he hd=>?_⟩
     rcases List.mem_cons.1 hx with rfl | hx
     ·exact Int.le_refl _
     ·have:=h3 x hx he hd;omega
    ·refine ⟨y,by simp [hy],h1,h2,fun x hx he hd=>?_⟩
     rcases List.mem_cons.1 hx with rfl | hx
     ·omega
     ·exact h3 x hx he hd
  ·rcases ih with ih | ⟨y,hy,h1,h2,h3⟩
   ·left
    intro x hx he hd
    rcases List.mem_cons.1 hx with rfl | hx
    ·exact ha ⟨he,hd⟩
    ·exact ih x hx he hd
   ·right
    refine ⟨y,by simp [hy],h1,h2,fun x hx he hd=>?_⟩
    rcases List.mem_cons.1 hx with rfl | hx
    ·exact absurd ⟨he,hd⟩ ha
    ·exact h3 x hx he hd
theorem totH_none {l:List Hol} {e d:Int} (h:∀ x∈l,x.entity=e→¬ x.date≤d):totH l e d=0:=by
 have h0:∀ k,atH l k e d=0:=fun k=>by
  unfold atH
  cases hc:curH d (ofPair l k e) with
  | none=>rfl
  | some m=>
   exfalso
   have h2:∀ (l2:List Hol),(∀ x∈l2,¬ x.date≤d)→curH d l2=none:=by
    intro l2
    induction l2 using snoc_ind with
    | h0=>intro _;rfl
    | h1 l2 x ih=>intro hh;rw [curH_late (hh x (by simp)),ih (fun y hy=>hh y (by simp [hy]))]
   rw [h2 _ (fun x hx=>?_)] at hc
   ·cases hc
   ·unfold ofPair at hx
    rw [List.mem_filter] at hx
    refine h x hx.1 ?_
    have:=hx.2
    unfold pairB at this
    rw [Bool.and_eq_true] at this
    simpa using this.2
 unfold totH sumAt
 have:∀ hs:List Int,(hs.map fun k=>atH l k e d).sum=0:=by
  intro hs
  induction hs with
  | nil=>rfl
  | cons a hs ih=>rw [List.map_cons,List.sum_cons,h0,ih];rfl
 exact this _
theorem sums_all {l:List Hol} (h:sumsB l=true) (e d:Int):totH l e d≤10000:=by
 rcases latest l e d with h1 | ⟨y,hy,h1,h2,h3⟩
 ·rw [totH_none h1];decide
 ·have h4:totH l e d=totH l e y.date:=totH_congr (fun x hx he=>⟨fun hd=>h3 x hx he hd,fun hd=>by omega⟩)
  rw [h4,← h1]
  unfold sumsB at h
  rw [List.all_eq_true] at h
  simpa using h y hy
theorem sums_bad {l:List Hol} {e d:Int} (h:¬ totH l e d≤10000):sumsB l=false:=by
 rw [Bool.eq_false_iff]
 intro hs
 exact h (sums_all hs e d)
theorem sums_good {l:List Hol} (h:∀ x∈l,totH l x.entity x.date≤10000):sumsB l=true:=by
 unfold sumsB
 rw [List.all_eq_true]
 intro x hx
 simpa using h x hx
def seenH (l:List Hol):Hol→Option Value:=fun k=>if l.any (fun x=>sameH x k) && k.share == 0 then some (.bool true) else none
theorem seenH_nil:seenH []=fun _=>none:=by funext k;simp [seenH]
theorem seenH_get (l:List Hol) (x:Hol):(seenH l (keyH x)).getD (.bool false)=.bool (l.any (fun a=>sameH a x)):=by
 unfold seenH
 have:(l.any fun a=>sameH a (keyH x))=l.any (fun a=>sameH a x):=rfl
 rw [this]
 cases l.any (fun a=>sameH a x) <;> simp [keyH]
theorem seenH_snoc (l:List Hol) (x:Hol):seenH (l ++ [x]) (keyH x)=some (.bool true)∧∀ k,k≠keyH x→seenH (l ++ [x]) k=seenH l k:=by
 refine ⟨by simp [seenH,sameH,keyH],fun k hk=>?_⟩
 unfold seenH
 have:(sameH x k && k.share == 0)=false:=by
  rw [Bool.eq_false_iff]
  intro h
  apply hk
  obtain ⟨k0,k1,k2,k3⟩:=k
  simp only [sameH,Bool.and_eq_true,beq_iff_eq] at h
  obtain ⟨⟨⟨a,b⟩,c⟩,d⟩:=h
  simp [keyH,a,b,c,d]
 have h2:((l ++ [x]).any (fun a=>sameH a k) && k.share == 0)=(l.any (fun a=>sameH a k) && k.share == 0):=by
  rw [List.any_append]
  simp only [List.any_cons,List.any_nil,Bool.or_false]
  cases h3:l.any (fun a=>sameH a k) <;> simp_all
 rw [h2]
end Go.Proofs.YtoaidbhiciaeaaaGreat

end
section
namespace Go.Proofs.YtoaidbhiciaeaaaGreat
open Go.RowKit Go.Maps
theorem keyLits_int {P:Program} {d:Nat} {t:TypeId} {x:Int} (hu:P.underlying t=some (.int .i64)) (h:I64 x):P.keyLits (d+1) t [.int .i64 x]=some [.int .i64 x]:=by
 have hw:=wf64.2 h
 unfold Program.keyLits
 rw [hu]
 simp [hw]
theorem laidOutK:laidOutB Tryz.prog=true:=by kernel_rfl
end Go.Proofs.YtoaidbhiciaeaaaGreat

end
section
namespace Go.Proofs.YtoaidbhiciaeaaaGreat
open Go.RowKit Go.Maps
theorem keyOf_hol {a b c d:Int} (ha:I64 a) (hb:I64 b) (hc:I64 c) (hd:I64 d):keyOf Tryz.prog 101 (.agg #[.int .i64 a,.int .i64 b,.int .i64 c,.int .i64 d])=some (.string (keyBytes [.int .i64 a,.int .i64 b,.int .i64 c,.int .i64 d])):=by
 unfold keyOf
 rw [Tryz.underlying101]
 have h1:Tryz.prog.keyType 101=true:=by kernel_rfl
 have h2:(Value.agg #[.int .i64 a,.int .i64 b,.int .i64 c,.int .i64 d]).formed Tryz.prog 101=true:=by
  have:Tryz.prog.cellsOf 101=4:=by kernel_rfl
  simp [Value.formed,Tryz.underlying101,this]
 have hs:Tryz.prog.types.size=(Tryz.prog.types.size - 1)+1:=by
  have:0 < Tryz.prog.types.size:=of_decide_eq_true (by kernel_rfl)
  omega
 have h3:Tryz.prog.keyLits (Tryz.prog.types.size+1) 101 [.int .i64 a,.int .i64 b,.int .i64 c,.int .i64 d]=some [.int .i64 a,.int .i64 b,.int .i64 c,.int .i64 d]:=by
  have hi:∀ d x,I64 x→Tryz.prog.keyLits (d+1) 3 [.int .i64 x]=some [.int .i64 x]:=fun d x h=>keyLits_int Tryz.underlying3 h
  have c4:Tryz.prog.cellsOf 101=4:=by kernel_rfl
  have c1:Tryz.prog.cellsOf 3=1:=by kernel_rfl
  unfold Program.keyLits
  rw [Tryz.underlying101]
  rw [hs]
  simp [c4,c1,hi,ha,hb,hc,hd]
 simp only [h1,h2,Bool.and_self,if_true]
 show (Tryz.prog.keyLits (Tryz.prog.types.size+1) 101 [.int .i64 a,.int .i64 b,.int .i64 c,.int .i64 d]).map _=_
 rw [h3]
 rfl
theorem holKeyed:Keyed Tryz.prog 101:=Keyed.of_law (deep_law_laid laidOutK (m:=2) (by omega) (of_decide_eq_true (by kernel_rfl)) (by kernel_rfl) (by rw [Tryz.underlying101]))
def holK:KeyEnc Tryz.prog 101 Hol where
 enc l:=.agg #[.int .i64 l.holder,.int .i64 l.entity,.int .i64 l.date,.int .i64 l.share]
 lit l:=.string (keyBytes [.int .i64 l.holder,.int .i64 l.entity,.int .i64 l.date,.int .i64 l.share])
 ok l:=I64 l.holder∧I64 l.entity∧I64 l.date∧I64 l.share
 keyed:=holKeyed
 key l h:=keyOf_hol h.1 h.2.1 h.2.2.1 h.2.2.2
 inj a b _ _ h:=by
  obtain ⟨a0,a1,a2,a3⟩:=a
  obtain ⟨b0,b1,b2,b3⟩:=b
  simpa using h
end Go.Proofs.YtoaidbhiciaeaaaGreat

end
section
namespace Go.Proofs.YtoaidbhiciaeaaaGreat
open Go.RowKit
set_option maxRecDepth 100000 in
theorem rtotal_any (ao:Option Addr) (l:List Hol) (cap b o:Nat) (e d:Int) (w:World) (H:Hols w ao l cap b o) (hl:l.length≤1000) (hb:ShB l) :
  Calls Tryz.prog 89 #[.slice ao l.length cap,.int .i64 e,.int .i64 d] w fun en w'=>en=.returned (.int .i64 (totH l e d))∧Keeps w w':=by
 have hcap:=Sl.cap H
 have hle:=Sl.le H
 have HH:=Lib.hid H
 have HB:=Lib.hid hb
 clear H hb
 go_enter Tryz.func89,Tryz.ntmps89
 go_wp2_with fail
 go_loopw [7,8] (fun vs vi wr=>∃ (k:Nat) (S:Int),k≤l.length∧vs=.int .i64 S∧vi=.int .i64 k∧-1000000000000≤S∧S≤1000000000000∧Hid (S=sumAt l e d (firstsH (l.take k))∧Keeps w wr)) (fun _ vi _=>l.length - (intOf vi).toNat)
 case atStart=>exact ⟨0,0,Nat.zero_le _,rfl,rfl,by omega,by omega,Lib.hid ⟨rfl,Keeps.refl w⟩⟩
 case round=>
  obtain ⟨k,S,hk,rfl,rfl,hS1,hS2,HW⟩:=hrel
  by_cases hlt:k < l.length
  ·have HL:=HH.out.keeps HW.out.2
   have hix:=Sl.at HL Tryz.underlying32 Tryz.sizeOf101 k hlt
   have hsn:=firstsH_snoc (l.take k) l[k]
   rw [← take_snoc _ _ hlt] at hsn
   obtain ⟨q,hq⟩:∃ q,(firstsH (l.take k)).contains l[k].holder=q:=⟨_,rfl⟩
   have HF:Hid (∀ W,Hols W ao l cap b o→Calls Tryz.prog 138 #[.slice ao l.length cap,.int .i64 (k:Int)] W fun e w'=>e=.returned (.bool (!q))∧Keeps W w'):=Lib.hid (fun W h=>by have:=rfirst_any ao l cap b o k W h hlt;rw [hq] at this;exact this)
   have c0:=HL.cell Hol.len k hlt 0 _ rfl
   simp only [Nat.add_zero] at c0
   have hbd:=sumAt_bd HB.out e d (firstsH (l.take (k+1)))
   have hfl:=firstsH_len (l.take (k+1))
   rw [List.length_take] at hfl
   rw [hq] at hsn
   clear HL hq
   cases q with
   | true=>
    have HSN:Hid (firstsH (l.take (k+1))=firstsH (l.take k)):=Lib.hid (by rw [hsn];rfl)
    clear hsn hbd hfl
    go_wp2_with (go_at_call 138;refine (HF.out _ (HH.out.keeps HW.out.2)).mono ?_;rintro en w1 ⟨rfl,hk1⟩;have HK1:=Lib.hid (HW.out.2.trans hk1);clear hk1)
    go_roundw
    case rel=>exact ⟨k+1,S,by omega,rfl,by go_num,by omega,by omega,Lib.hid ⟨by rw [HSN.out];exact HW.out.1,HK1.out⟩⟩
    case measure=>simp [intOf];omega
   | false=>
    have hsn2:firstsH (l.take (k+1))=firstsH (l.take k) ++ [l[k].holder]:=by rw [hsn];rfl
    have hadd:sumAt l e d (firstsH (l.take (k+1)))=S+atH l l[k].holder e d:=by rw [hsn2,sumAt_snoc,HW.out.1]
    rw [hadd] at hbd
    have hS3:-1000000000000≤S+atH l l[k].holder e d:=by omega
    have hS4:S+atH l l[k].holder e d≤1000000000000:=by omega
    have hab:=atH_bd HB.out l[k].holder e d
    obtain ⟨ha1,ha2⟩:=hab
    have HADD:=Lib.hid hadd
    clear hsn hsn2 hbd hfl hadd
    go_wp2_with (first | (go_at_call 139;refine (rhat_any ao l cap b o l[k].holder e d _ (HH.out.keeps HK1.out)).mono ?_;rintro en w2 ⟨rfl,hk2⟩;have HK2:=Lib.hid (HK1.out.trans hk2);clear hk2) | (go_at_call 138;refine (HF.out _ (HH.out.keeps HW.out.2)).mono ?_;rintro en w1 ⟨rfl,hk1⟩;have HK1:=Lib.hid (HW.out.2.trans hk1);have c1:=hk1.cell c0;clear hk1 c0))
    go_roundw
    case rel=>exact ⟨k+1,_,by omega,rfl,by go_num,by omega,by omega,Lib.hid ⟨HADD.out.symm,HK2.out⟩⟩
    case measure=>simp [intOf];omega
  ·obtain rfl:k=l.length:=by omega
   have HQ:Hid (totH l e d=S):=Lib.hid (by have:=HW.out.1;rw [List.take_length] at this;exact this.symm)
   go_wp2_with fail
   go_ret
   rw [HQ.out]
   exact ⟨rfl,HW.out.2⟩
theorem inside_any (k n:Int) (B:Nat) (w:World) (hc:w.cell? ⟨B,0,none⟩=some (.int .i64 n)) :
  Calls Tryz.prog 108 #[.int .i64 k,.pointer (some ⟨B,0,none⟩)] w fun en w'=>en=.returned (.bool (decide (0≤k) && decide (k < n)))∧w=w':=by
 by_cases h:0≤k
 ·have hd:decide (0≤k)=true:=decide_eq_true h
  rw [hd,Bool.true_and]
  go_enter Tryz.func108,Tryz.ntmps108
  go_wp2
  go_ret
  exact ⟨rfl,rfl⟩
 ·have hd:decide (0≤k)=false:=decide_eq_false h
  rw [hd,Bool.false_and]
  go_enter Tryz.func108,Tryz.ntmps108
  go_wp2
  go_ret
  exact ⟨rfl,rfl⟩
set_option maxRecDepth 100000 in
theorem properH_any (n:Int) (x:Hol) (w:World):Calls Tryz.prog 66 #[.int .i64 n,.agg #[.int .i64 x.holder,.int .i64 x.entity,.int .i64 x.date,.int .i64 x.share]] w fun e w'=>e=.returned (.bool (properB n x))∧Keeps w w':=by
 obtain ⟨dv,hdv⟩:∃ dv,dateB x.date=dv:=⟨_,rfl⟩
 have HD:Hid (∀ W,Calls Tryz.prog 109 #[.int .i64 x.date] W fun e w'=>e=.returned (.bool dv)∧W=w'):=Lib.hid (fun W=>by have:=hdate_any x.date W;rw [hdv] at this;exact this)
 obtain ⟨p,hp⟩:∃ p,(decide (0≤x.holder) && decide (x.holder < n))=p:=⟨_,rfl⟩
 have HO:Hid (∀ W,W.cell? ⟨w.heap.size,0,none⟩=some (.int .i64 n)→Calls Tryz.prog 108 #[.int .i64 x.holder,.pointer (some ⟨w.heap.size,0,none⟩)] W fun en w'=>en=.returned (.bool p)∧W=w'):=Lib.hid (fun W h=>by have:=inside_any x.holder n w.heap.size W h;rw [hp] at this;exact this)
 obtain ⟨q,hq⟩:∃ q,(decide (0≤x.entity) && decide (x.entity < n))=q:=⟨_,rfl⟩
 have HE:Hid (∀ W,W.cell? ⟨w.heap.size,0,none⟩=some (.int .i64 n)→Calls Tryz.prog 108 #[.int .i64 x.entity,.pointer (some ⟨w.heap.size,0,none⟩)] W fun en w'=>en=.returned (.bool q)∧W=w'):=Lib.hid (fun W h=>by have:=inside_any x.entity n w.heap.size W h;rw [hq] at this;exact this)
 have hfin:properB n x=(p && q && (x.holder != x.entity) && dv && decide (0≤x.share) && decide (x.share≤10000)):=by
  unfold properB
  rw [hp,hdv,← hq,← Bool.and_assoc]
 clear hp hq hdv
 cases p with
 | false=>
  have HQ:Hid (properB n x=false):=Lib.hid (by rw [hfin];simp only [Bool.false_and])
  clear hfin
  go_enter Tryz.func66,Tryz.ntmps66
  go_wp2_with (first | (go_at_call 109;refine (HD.out _).mono ?_;rintro e w1 ⟨rfl,rfl⟩) | (go_at_call 108;(with_reducible refine (HE.out _ (by go_simp)).mono ?_);rintro e w1 ⟨rfl,rfl⟩) | (go_at_call 108;(with_reducible refine (HO.out _ (by go_simp)).mono ?_);rintro e w1 ⟨rfl,rfl⟩))
  go_ret
  rw [HQ.out]
  exact ⟨rfl,((Keeps.refl w).alloc _).alloc _⟩
 | true=>
  cases q with
  | false=>
   have HQ:Hid (properB n x=false):=Lib.hid (by rw [hfin];simp only [Bool.false_and,Bool.and_false])
   clear hfin
   go_enter Tryz.func66,Tryz.ntmps66
   go_wp2_with (first | (go_at_call 109;refine (HD.out _).mono ?_;rintro e w1 ⟨rfl,rfl⟩) | (go_at_call 108;(with_reducible refine (HE.out _ (by go_simp)).mono ?_);rintro e w1 ⟨rfl,rfl⟩) | (go_at_call 108;(with_reducible refine (HO.out _ (by go_simp)).mono ?_);rintro e w1 ⟨rfl,rfl⟩))
   go_ret
   rw [HQ.out]
   exact ⟨rfl,((Keeps.refl w).alloc _).alloc _⟩
  | true=>
   cases h5:(x.holder != x.entity) with
   | false=>
    have HQ:Hid (properB n x=false):=Lib.hid (by rw [hfin,h5];simp only [Bool.false_and,Bool.and_false])
    clear hfin
    go_enter Tryz.func66,Tryz.ntmps66
    go_wp2_with (first | (go_at_call 109;refine (HD.out _).mono ?_;rintro e w1 ⟨rfl,rfl⟩) | (go_at_call 108;(with_reducible refine (HE.out _ (by go_simp)).mono ?_);rintro e w1 ⟨rfl,rfl⟩) | (go_at_call 108;(with_reducible refine (HO.out _ (by go_simp)).mono ?_);rintro e w1 ⟨rfl,rfl⟩))
    go_ret
    rw [HQ.out]
    exact ⟨rfl,((Keeps.refl w).alloc _).alloc _⟩
   | true=>
    cases dv with
    | false=>
     have HQ:Hid (properB n x=false):=Lib.hid (by rw [hfin];simp only [Bool.false_and,Bool.and_false])
     clear hfin
     go_enter Tryz.func66,Tryz.ntmps66
     go_wp2_with (first | (go_at_call 109;refine (HD.out _).mono ?_;rintro e w1 ⟨rfl,rfl⟩) | (go_at_call 108;(with_reducible refine (HE.out _ (by go_simp)).mono ?_);rintro e w1 ⟨rfl,rfl⟩) | (go_at_call 108;(with_reducible refine (HO.out _ (by go_simp)).mono ?_);rintro e w1 ⟨rfl,rfl⟩))
     go_ret
     rw [HQ.out]
     exact ⟨rfl,((Keeps.refl w).alloc _).alloc _⟩
    | true=>
     by_cases h6:0≤x.share
     ·have HQ:Hid (properB n x=decide (x.share≤10000)):=Lib.hid (by rw [hfin,h5,decide_eq_true h6];simp only [Bool.true_and])
      clear hfin
      go_enter Tryz.func66,Tryz.ntmps66
      go_wp2_with (first | (go_at_call 109;refine (HD.out _).mono ?_;rintro e w1 ⟨rfl,rfl⟩) | (go_at_call 108;(with_reducible refine (HE.out _ (by go_simp)).mono ?_);rintro e w1 ⟨rfl,rfl⟩) | (go_at_call 108;(with_reducible refine (HO.out _ (by go_simp)).mono ?_);rintro e w1 ⟨rfl,rfl⟩))
      go_ret
      rw [HQ.out]
      exact ⟨rfl,((Keeps.refl w).alloc _).alloc _⟩
     ·have HQ:Hid (properB n x=false):=Lib.hid (by rw [hfin,decide_eq_false h6];simp only [Bool.false_and,Bool.and_false])
      clear hfin
      go_enter Tryz.func66,Tryz.ntmps66
      go_wp2_with (first | (go_at_call 109;refine (HD.out _).mono ?_;rintro e w1 ⟨rfl,rfl⟩) | (go_at_call 108;(with_reducible refine (HE.out _ (by go_simp)).mono ?_);rintro e w1 ⟨rfl,rfl⟩) | (go_at_call 108;(with_reducible refine (HO.out _ (by go_simp)).mono ?_);rintro e w1 ⟨rfl,rfl⟩))
      go_ret
      rw [HQ.out]
      exact ⟨rfl,((Keeps.refl w).alloc _).alloc _⟩
end Go.Proofs.YtoaidbhiciaeaaaGreat

end
section
namespace Go.Proofs.YtoaidbhiciaeaaaGreat
open Go.RowKit
structure KeepBut (N lo hi:Nat) (A C:World):Prop where
 size:A.heap.size≤C.heap.size
 same:∀ k,k < N→(k < lo∨hi≤k)→C.heap[k]?=A.heap[k]?
variable {N lo hi:Nat} {A B C:World}
theorem KeepBut.refl (N lo hi:Nat) (A:World):KeepBut N lo hi A A:=⟨Nat.le_refl _,fun _ _ _=>rfl⟩
theorem KeepBut.trans (h:KeepBut N lo hi A B) (k:KeepBut N lo hi B C):KeepBut N lo hi A C:=⟨Nat.le_trans h.size k.size,fun i h1 h2=>(k.same i h1 h2).trans (h.same i h1 h2)⟩
theorem KeepBut.alloc (h:KeepBut N lo hi A B) (hN:N≤B.heap.size) (o:Obj):KeepBut N lo hi A (B.alloc o):=
 ⟨by simp;have:=h.size;omega,fun k h1 h2=>(Below.heap_alloc B o k (by omega)).trans (h.same k h1 h2)⟩
theorem KeepBut.setCell (h:KeepBut N lo hi A B) {p:Addr} (hp:lo≤p.block) (hq:p.block < hi) (v:Value):KeepBut N lo hi A (B.setCell p v):=
 ⟨by have:=h.size;simpa [World.setCell] using this,fun k h1 h2=>(Below.heap_setCell B p v k (by omega)).trans (h.same k h1 h2)⟩
theorem KeepBut.putObj (W:World) (l:Nat) (o':Obj) (hl:N≤l):KeepBut N lo hi W (W.putObj l o'):=
 ⟨by simp,fun k h1 _=>World.putObj_heap_other (by omega)⟩
theorem KeepBut.drew (h:KeepBut N lo hi A B):KeepBut N lo hi A B.drew:=⟨h.size,h.same⟩
theorem KeepBut.cell (h:KeepBut N lo hi A B) {p:Addr} (hp:p.block < N) (hq:p.block < lo∨hi≤p.block) {v:Value} (hc:A.cell? p=some v):B.cell? p=some v:=by
 have:=h.same p.block hp hq
 rw [← hc]
 unfold World.cell?
 rw [this]
theorem KeepBut.hols {ao:Option Addr} {l:List Hol} {cap b o:Nat} (h:KeepBut N lo hi A B) (hp:b < N) (hq:b < lo∨hi≤b) (H:Hols A ao l cap b o):Hols B ao l cap b o:=
 ⟨H.len,H.le,H.nocap,H.cap,H.addr,fun j u hu=>h.cell (p:=⟨b,o+j,none⟩) hp hq (Sl.cell H j u hu)⟩
end Go.Proofs.YtoaidbhiciaeaaaGreat

end
