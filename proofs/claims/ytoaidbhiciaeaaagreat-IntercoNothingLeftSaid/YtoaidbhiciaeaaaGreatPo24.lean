/- Walks and plain facts that the claim rests on (ScopeQ, ScopeC, HolRDatesO). No condition. -/
import Derived.Test.YtoaidbhiciaeaaaGreatPo21
import Derived.Test.YtoaidbhiciaeaaaGreatPo16
import Derived.Test.YtoaidbhiciaeaaaGreatPo23
set_option linter.unusedSimpArgs false
set_option linter.unusedVariables false
set_option maxHeartbeats 16000000
section
namespace Go.Proofs.YtoaidbhiciaeaaaGreat
open Go.RowKit
def inI (d:Int) (x:Ivl):Bool:=decide (x.frm≤d) && decide (d < x.to)
theorem curI_hit {l:List Ivl} {d:Int} (hd:dateB d=true) {k:Nat} (hk:k < l.length) (h:∀ j (hj:j < l.length),j < k→inI d l[j]=false) (hx:inI d l[k]=true):curI l d=some l[k]:=by
 unfold curI
 rw [if_pos hd]
 refine List.find?_eq_some_iff_getElem.2 ⟨hx,k,hk,rfl,fun j hj=>?_⟩
 have:=h j (by omega) hj
 unfold inI at this
 rw [this];rfl
theorem curI_miss {l:List Ivl} {d:Int} (h:dateB d=true→∀ j (hj:j < l.length),inI d l[j]=false):curI l d=none:=by
 unfold curI
 by_cases hd:dateB d=true
 ·rw [if_pos hd]
  refine List.find?_eq_none.2 fun x hx=>?_
  obtain ⟨j,hj,rfl⟩:=List.getElem_of_mem hx
  have:=h hd j hj
  unfold inI at this
  simp [this]
 ·rw [if_neg hd]
def Ivl.val (x:Ivl):Value:=.agg #[.int .i64 x.frm,.int .i64 x.to,.int .i64 x.mth]
theorem ivlSize:(Tryz.prog.info? 127).map (·.size)=some 3:=by kernel_rfl
theorem results_row_tmp {P:Program} {fn:Func} {p u:Tmp} {ty:TypeId} (h:fn.results=#[.cell p ty,.tmp u]) (tmps:Array Value) (w:World) (g:Nat) (cs:List Value) (d:TypeDesc)
  (hp:tmps.getD p undef=.pointer (some ⟨g,0,none⟩)) (hc:w.rangeAt g 0 cs) (hu:P.underlying ty=some d) (hd:d.isRow=true) (hi:(P.info? ty).map (·.size)=some cs.length) :
  (results fn tmps).run P w=.ok (.tuple #[.agg cs.toArray,tmps.getD u undef]) w:=by
 have hp':tmps[p]?.getD undef=.pointer (some ⟨g,0,none⟩):=by simpa using hp
 simp [results,h,hp',asAddr,run_loadVar_mid w g 0 ty cs d hc hu hd hi,Sem.run_bind,Result.andThen]
def IvX (W:World) (B:Nat) (x:Ivl):Prop:=RowB W B 127 x.cells
theorem IvX.set {W:World} {B:Nat} {x:Ivl} (h:IvX W B x) (y:Ivl):IvX (((W.setCell ⟨B,0,none⟩ (.int .i64 y.frm)).setCell ⟨B,1,none⟩ (.int .i64 y.to)).setCell ⟨B,2,none⟩ (.int .i64 y.mth)) B y:=((RowB.set h 0 _).set 1 _).set 2 _
theorem keeps_row3 {a:World} {W:World} {B:Nat} (h:Keeps a W) (hB:a.heap.size≤B) (u v y:Value):Keeps a (((W.setCell ⟨B,0,none⟩ u).setCell ⟨B,1,none⟩ v).setCell ⟨B,2,none⟩ y):=
 ((h.setCell (p:=⟨B,0,none⟩) hB _).setCell (p:=⟨B,1,none⟩) hB _).setCell (p:=⟨B,2,none⟩) hB _
theorem cur_1 {r:List Ivl × Int} {d:Int} (h:r.2≠0):curR r d=(⟨0,0,0⟩,r.2):=by unfold curR;rw [if_neg h]
theorem cur_2 {l:List Ivl} {d:Int} (h:curI l d=none):curR (l,0) d=(⟨0,0,0⟩,2):=by unfold curR;rw [if_pos rfl,h]
theorem cur_3 {l:List Ivl} {d:Int} {x:Ivl} (h:curI l d=some x):curR (l,0) d=(x,0):=by unfold curR;rw [if_pos rfl,h]
set_option maxRecDepth 100000 in
theorem cur_any (G:Gc) (js:List Bool) (l:List Hol) (xs:List Int) (hxs:IsDates l xs) (en day:Int) (ao:Option Addr) (cap b o:Nat) (aol:Option Addr) (capl bl ol:Nat) (w:World) (HJ:Ents w ao js cap b o) (H:Hols w aol l capl bl ol) (hlen:l.length≤900) (hok:∀ x∈l,x.Ok) :
  Calls Tryz.prog 117 #[.agg #[G.c0,G.c1,G.c2,G.c3,G.c4,G.c5,G.c6,G.c7,G.c8,G.c9,G.c10,G.c11,G.c12,G.c13,G.c14,G.c15,G.c16,G.c17,G.c18,G.c19,.slice ao js.length cap],.slice aol l.length capl,.int .i64 en,.int .i64 day] w fun e w'=>e=.returned (.tuple #[(curR (ivR js l xs en) day).1.val,.int .i64 (curR (ivR js l xs en) day).2])∧Keeps w w':=by
 have hall:=fun W (hk:Keeps w W)=>ivals_any G js l xs hxs en ao cap b o aol capl bl ol W (HJ.keeps hk) (H.keeps hk) hlen hok
 have hcap:=HJ.capE
 have hle:=HJ.leE
 have hload:=(((RowB.new w 29 (grpC G (.slice ao js.length cap))).alloc (.cells #[.int .i64 0,.int .i64 0,.int .i64 0] 127))).range
 obtain ⟨⟨rl,re⟩,hr⟩:∃ r,ivR js l xs en=r:=⟨_,rfl⟩
 rw [hr] at hall ⊢
 have HI:Hid (∀ W,Keeps w W→Calls Tryz.prog 152 #[.agg #[G.c0,G.c1,G.c2,G.c3,G.c4,G.c5,G.c6,G.c7,G.c8,G.c9,G.c10,G.c11,G.c12,G.c13,G.c14,G.c15,G.c16,G.c17,G.c18,G.c19,.slice ao js.length cap],.slice aol l.length capl,.int .i64 en] W fun e w'=>∃ ao cap b o,e=.returned (.tuple #[.slice ao rl.length cap,.int .i64 re])∧Ivls w' ao rl cap b o∧Keeps W w'):=Lib.hid hall
 clear hall hr HJ H
 by_cases h0:re=0
 ·subst h0
  obtain ⟨vd,hvd⟩:∃ vd,dateB day=vd:=⟨_,rfl⟩
  have HD:Hid (∀ W,Calls Tryz.prog 109 #[.int .i64 day] W fun e w'=>e=.returned (.bool vd)∧W=w'):=Lib.hid (fun W=>by have:=hdate_any day W;rw [hvd] at this;exact this)
  have HVD:=Lib.hid hvd
  clear hvd
  go_enter Tryz.func117,Tryz.ntmps117
  go_wp2_with (first | (refine wpList_load_mid rfl 29 _ rfl w.heap.size 0 rfl (grpC G (.slice ao js.length cap)) _ hload Tryz.underlying29 rfl groupSize ?_) | (go_at_call 152;(refine (HI.out _ (((Keeps.refl w).alloc _).alloc _)).mono ?_);rintro e w2 ⟨ao2,cap2,b2,o2,rfl,hs2,hk2⟩;have K2:=Lib.hid hk2;have HS2:=Lib.hid hs2;have hc2:=Sl.cap hs2;have hl2:=Sl.le hs2;have hx2:IvX w2 (w.heap.size+1) ⟨0,0,0⟩:=RowB.keeps (by have:=RowB.new (w.alloc (.cells (grpC G (.slice ao js.length cap)).toArray 29)) 127 (Ivl.cells ⟨0,0,0⟩);rw [World.size_alloc] at this;exact this) hk2;have HX2:=Lib.hid hx2;have x0:=RowB.cell hx2 0 _ rfl;have x1:=RowB.cell hx2 1 _ rfl;have x2:=RowB.cell hx2 2 _ rfl;have y0:=RowB.frozen hx2 0;have y1:=RowB.frozen hx2 1;have y2:=RowB.frozen hx2 2;have z0:=RowB.lt hx2;clear hs2 hk2 hx2))
  go_loopw [27] (fun vi wr=>∃ k:Nat,k≤rl.length∧vi=.int .i64 k∧Hid (Keeps w2 wr∧∀ j (hj:j < rl.length),j < k→dateB day=true→inI day rl[j]=false)) (fun vi _=>rl.length - (intOf vi).toNat)
  case atStart=>exact ⟨0,Nat.zero_le _,rfl,Lib.hid ⟨Keeps.refl _,fun j _ hj=>absurd hj (Nat.not_lt_zero _)⟩⟩
  case round=>
   obtain ⟨k,hk,rfl,HX⟩:=hrel
   by_cases hlt:k < rl.length
   ·have HSk:=HS2.out.keeps HX.out.1
    have c0:=HSk.cell Ivl.len k hlt 0 _ rfl
    have c1:=HSk.cell Ivl.len k hlt 1 _ rfl
    have c2:=HSk.cell Ivl.len k hlt 2 _ rfl
    have hix:=Sl.at HSk Tryz.underlying155 Tryz.sizeOf127 k hlt
    simp only [Nat.add_zero] at c0
    have hlb:=World.block_lt_of_cell? _ _ c0
    have x0':=HX.out.1.cell x0
    have x1':=HX.out.1.cell x1
    have x2':=HX.out.1.cell x2
    have y0':=HX.out.1.frz x0 y0
    have y1':=HX.out.1.frz x1 y1
    have y2':=HX.out.1.frz x2 y2
    have z0':=Nat.lt_of_lt_of_le z0 HX.out.1.size
    obtain ⟨z,hz⟩:∃ z,rl[k]=z:=⟨_,rfl⟩
    have HZ:=Lib.hid hz
    rw [hz] at c0 c1 c2
    clear hz HSk
    cases vd with
    | false=>
     have HN:Hid (∀ j (hj:j < rl.length),j < k+1→dateB day=true→inI day rl[j]=false):=Lib.hid (fun j hj _ h=>by rw [HVD.out] at h;cases h)
     go_wp2_with (go_at_call 109;refine (HD.out _).mono ?_;rintro e w5 ⟨rfl,rfl⟩)
     go_roundw
     case rel=>exact ⟨k+1,by omega,by go_num,Lib.hid ⟨HX.out.1.alloc _,HN.out⟩⟩
     case measure=>simp [intOf];omega
    | true=>
     by_cases h1:z.frm≤day
     ·have h1':decide (z.frm≤day)=true:=decide_eq_true h1
      by_cases h2:day < z.to
      ·have h2':decide (day < z.to)=true:=decide_eq_true h2
       have HC:Hid (curI rl day=some z):=Lib.hid (by
        have:=curI_hit HVD.out hlt (fun j hj hjk=>HX.out.2 j hj hjk HVD.out) (by rw [HZ.out];simp [inI,h1,h2])
        rw [HZ.out] at this;exact this)
       go_wp2_with (go_at_call 109;refine (HD.out _).mono ?_;rintro e w5 ⟨rfl,rfl⟩)
       refine bodyPost_ret (results_row_tmp rfl _ _ (w.heap.size+1) z.cells _ rfl (RowB.range ((IvX.set (RowB.keeps HX2.out HX.out.1) z).alloc _)) Tryz.underlying127 rfl ivlSize) rfl ?_
       rw [cur_3 HC.out]
       exact ⟨rfl,(keeps_row3 ((((Keeps.refl w).alloc _).alloc _).trans (K2.out.trans HX.out.1)) (Nat.le_succ _) _ _ _).alloc _⟩
      ·have h2':decide (day < z.to)=false:=decide_eq_false h2
       have HN:Hid (∀ j (hj:j < rl.length),j < k+1→dateB day=true→inI day rl[j]=false):=Lib.hid (fun j hj hjk h=>by
        by_cases e:j=k
        ·subst e;rw [HZ.out];simp [inI,h2]
        ·exact HX.out.2 j hj (by omega) h)
       go_wp2_with (go_at_call 109;refine (HD.out _).mono ?_;rintro e w5 ⟨rfl,rfl⟩)
       go_roundw
       case rel=>exact ⟨k+1,by omega,by go_num,Lib.hid ⟨HX.out.1.alloc _,HN.out⟩⟩
       case measure=>simp [intOf];omega
     ·have h1':decide (z.frm≤day)=false:=decide_eq_false h1
      have HN:Hid (∀ j (hj:j < rl.length),j < k+1→dateB day=true→inI day rl[j]=false):=Lib.hid (fun j hj hjk h=>by
       by_cases e:j=k
       ·subst e;rw [HZ.out];simp [inI,h1]
       ·exact HX.out.2 j hj (by omega) h)
      go_wp2_with (go_at_call 109;refine (HD.out _).mono ?_;rintro e w5 ⟨rfl,rfl⟩)
      go_roundw
      case rel=>exact ⟨k+1,by omega,by go_num,Lib.hid ⟨HX.out.1.alloc _,HN.out⟩⟩
      case measure=>simp [intOf];omega
   ·obtain rfl:k=rl.length:=by omega
    have HC:=Lib.hid (cur_2 (curI_miss (l:=rl) (d:=day) fun h j hj=>HX.out.2 j hj hj h))
    have x0':=HX.out.1.cell x0
    have x1':=HX.out.1.cell x1
    have x2':=HX.out.1.cell x2
    have y0':=HX.out.1.frz x0 y0
    have y1':=HX.out.1.frz x1 y1
    have y2':=HX.out.1.frz x2 y2
    go_wp2_with fail
    refine bodyPost_ret (results_row_tmp rfl _ _ (w.heap.size+1) (Ivl.cells ⟨0,0,0⟩) _ rfl (RowB.range (IvX.set (RowB.keeps HX2.out HX.out.1) ⟨0,0,0⟩)) Tryz.underlying127 rfl ivlSize) rfl ?_
    rw [HC.out]
    exact ⟨rfl,keeps_row3 ((((Keeps.refl w).alloc _).alloc _).trans (K2.out.trans HX.out.1)) (Nat.le_succ _) _ _ _⟩
 ·have HQ:=Lib.hid (cur_1 (r:=(rl,re)) (d:=day) h0)
  have e3:(!(re == 0))=true:=by simpa using h0
  go_enter Tryz.func117,Tryz.ntmps117
  go_wp2_with (first | (refine wpList_load_mid rfl 29 _ rfl w.heap.size 0 rfl (grpC G (.slice ao js.length cap)) _ hload Tryz.underlying29 rfl groupSize ?_) | (go_at_call 152;(refine (HI.out _ (((Keeps.refl w).alloc _).alloc _)).mono ?_);rintro e w2 ⟨ao2,cap2,b2,o2,rfl,hs2,hk2⟩;have K2:=Lib.hid hk2;have HS2:=Lib.hid hs2;have hc2:=Sl.cap hs2;have hl2:=Sl.le hs2;have hx2:IvX w2 (w.heap.size+1) ⟨0,0,0⟩:=RowB.keeps (by have:=RowB.new (w.alloc (.cells (grpC G (.slice ao js.length cap)).toArray 29)) 127 (Ivl.cells ⟨0,0,0⟩);rw [World.size_alloc] at this;exact this) hk2;have HX2:=Lib.hid hx2;have x0:=RowB.cell hx2 0 _ rfl;have x1:=RowB.cell hx2 1 _ rfl;have x2:=RowB.cell hx2 2 _ rfl;have y0:=RowB.frozen hx2 0;have y1:=RowB.frozen hx2 1;have y2:=RowB.frozen hx2 2;have z0:=RowB.lt hx2;clear hs2 hk2 hx2))
  refine bodyPost_ret (results_row_tmp rfl _ _ (w.heap.size+1) (Ivl.cells ⟨0,0,0⟩) _ rfl (RowB.range (IvX.set HX2.out ⟨0,0,0⟩)) Tryz.underlying127 rfl ivlSize) rfl ?_
  rw [HQ.out]
  exact ⟨rfl,keeps_row3 ((((Keeps.refl w).alloc _).alloc _).trans K2.out) (Nat.le_succ _) _ _ _⟩
end Go.Proofs.YtoaidbhiciaeaaaGreat

end
section
namespace Go.Proofs.YtoaidbhiciaeaaaGreat
open Go.RowKit
set_option maxRecDepth 100000 in
theorem hrdatesO_any (ao2:Option Addr) (l:List Hol) (cap2 b2 o2:Nat) (w:World) (H:Hols w ao2 l cap2 b2 o2) (hlen:l.length≤1000) :
  Calls Tryz.prog 142 #[.slice ao2 l.length cap2] w (DatesOwn w l):=by
 have hcap:=Sl.cap H
 have hle:=Sl.le H
 have HH:=Lib.hid H
 clear H
 go_enter Tryz.func142,Tryz.ntmps142
 go_wp2_with fail
 go_loopw [3,4] (fun vo vi wr=>∃ (i:Nat) (xs:List Int),i≤l.length∧xs.length≤i∧vi=.int .i64 i∧Hid (IsDates (l.take i) xs)∧Hid (Keeps w wr∧wr.ownsRow w.heap.size 3 1 vo xs.length (xs.map (.int .i64)))) (fun _ vi _=>l.length - (intOf vi).toNat)
 case atStart=>exact ⟨0,[],Nat.zero_le _,Nat.le_refl _,rfl,Lib.hid ⟨List.Pairwise.nil,by simp⟩,Lib.hid ⟨Keeps.refl w,World.ownsRow_nil _ _ _ _⟩⟩
 case round=>
  obtain ⟨i,xs,hi,hxl,rfl,HD,HW⟩:=hrel
  obtain ⟨wa,rfl⟩:∃ wa:World,wa=wr:=⟨_,rfl⟩
  by_cases hlt:i < l.length
  ·obtain ⟨ao,cap,b,hv,hs⟩:=Sl.own HW.out.2
   obtain ⟨o,ho⟩:∃ o,o=0:=⟨0,rfl⟩
   rw [← ho] at hs
   clear ho
   have HSl:=Lib.hid hs
   have hcx:=hs.cap
   have hlx:=hs.le
   subst hv
   have HLk:=HH.out.keeps HW.out.1
   have hix:=Sl.at HLk Tryz.underlying32 Tryz.sizeOf101 i hlt
   have c2:=HLk.cell Hol.len i hlt 2 _ rfl
   have HT:=Lib.hid (take_snoc l i hlt)
   clear HLk hs
   go_wp2_with fail
   go_loopw [5] (fun vk wy=>∃ k q:Nat,k≤xs.length∧vk=.int .i64 k∧Hid (∀ j (hj:j < xs.length),j < k→xs[j] < l[i].date)∧wy=wa.drewN q) (fun vk _=>xs.length - (intOf vk).toNat)
   case atStart=>exact ⟨0,0,Nat.zero_le _,rfl,Lib.hid (fun j _ h=>absurd h (Nat.not_lt_zero _)),rfl⟩
   case round=>
    obtain ⟨k,q,hk,rfl,HN,rfl⟩:=hrel
    by_cases hk1:k < xs.length
    ·have hix3:=HSl.out.at1 Tryz.underlying69 Tryz.sizeOf3 k hk1
     have d0:=HSl.out.int k hk1
     have hk0:decide ((k:Int) < (xs.length:Int))=true:=decide_eq_true (by omega)
     have hke:((k:Int) == (xs.length:Int))=false:=by simpa using (show (k:Int)≠xs.length by omega)
     by_cases hlt2:xs[k] < l[i].date
     ·have HN2:Hid (∀ j (hj:j < xs.length),j < k+1→xs[j] < l[i].date):=Lib.hid (fun j hj h=>by
       rcases Nat.lt_succ_iff_lt_or_eq.1 h with h | rfl
       ·exact HN.out j hj h
       ·exact hlt2)
      have e1:decide (xs[k] < l[i].date)=true:=decide_eq_true hlt2
      clear hlt2
      go_wp2_with fail
      go_quiet (fail)
      go_wp2_with fail
      go_roundw
      case rel=>exact ⟨k+1,_,by omega,by go_num,HN2,rfl⟩
      case measure=>simp [intOf];omega
     ·have e1:decide (xs[k] < l[i].date)=false:=decide_eq_false hlt2
      by_cases he:xs[k]=l[i].date
      ·have HD2:Hid (IsDates (l.take (i+1)) xs):=Lib.hid (by rw [HT.out];exact HD.out.same hk1 he)
       have e2:(xs[k] != l[i].date)=false:=by simpa using he
       have HWX:Hid (∀ q,Keeps w (wa.drewN q)∧(wa.drewN q).ownsRow w.heap.size 3 1 (.slice ao xs.length cap) xs.length (xs.map (.int .i64))):=Lib.hid (fun q=>⟨HW.out.1.drewN q,HW.out.2⟩)
       clear he hlt2
       go_wp2_with fail
       go_quiet (fail)
       go_wp2_with fail
       go_quiet (fail)
       go_wp2_with fail
       go_roundw
       case rel=>exact ⟨i+1,xs,by omega,by omega,by go_num,HD2,Lib.hid (HWX.out _)⟩
       case measure=>simp [intOf];omega
      ·have e2:(xs[k] != l[i].date)=true:=by simpa using he
       have HD2:Hid (IsDates (l.take (i+1)) (xs.take k ++ [l[i].date] ++ xs.drop k)):=Lib.hid (by rw [HT.out];exact HD.out.insert (by omega) HN.out (fun _=>by omega))
       clear he hlt2
       go_wp2_with fail
       go_quiet (fail)
       go_wp2_with fail
       go_quiet (fail)
       go_wp2_with fail
       clear d0 hix3
       rename_i nq0
       obtain ⟨ao5,hcf,hs5⟩:=Sl.cutFrom HSl.out Tryz.underlying69 Tryz.sizeOf3 k hk
       have hct:=run_cutTo Tryz.underlying69 Tryz.sizeOf3 ao xs.length cap k (by omega) hcx
       rw [Nat.mul_one] at hs5
       have HS5:=Lib.hid hs5
       have HS1:=Lib.hid (HSl.out.takeInt k hk)
       rw [List.length_take,Nat.min_eq_left hk] at HS1
       have HO1:Hid (∀ u∈(xs.take k).map (Value.int .i64),u.oneCell'=true):=Lib.hid (ints_oneCell _ _)
       have HO2:Hid (∀ u∈(xs.map (Value.int .i64)).drop k,u.oneCell'=true):=Lib.hid (fun u hu=>ints_oneCell _ _ u (List.mem_of_mem_drop hu))
       have HLN:Hid ((xs.take k ++ [l[i].date] ++ xs.drop k).length=xs.length+1):=Lib.hid (by rw [List.length_append,List.length_append,List.length_take,List.length_drop,List.length_singleton];omega)
       clear hs5
       obtain ⟨wo,hwo⟩:∃ wo:World,((wa.drewN q).drewN nq0).drewN nq=wo:=⟨_,rfl⟩
       have p2:wo.cell? ⟨b2,o2+i * 4+2,none⟩=some (.int .i64 l[i].date):=by rw [← hwo];exact c2
       have HKO:Hid (Keeps w wo):=Lib.hid (by rw [← hwo];exact ((HW.out.1.drewN _).drewN _).drewN _)
       have HS1':Hid (Sl wo 1 ao k cap b o ((xs.take k).map (.int .i64))):=Lib.hid (by rw [← hwo];exact ((HS1.out.drewN _).drewN _).drewN _)
       have HS5':Hid (Sl wo 1 ao5 (xs.length - k) (cap - k) b (o+k) ((xs.map (.int .i64)).drop k)):=Lib.hid (by rw [← hwo];exact ((HS5.out.drewN _).drewN _).drewN _)
       rw [hwo]
       have hbp:=World.block_lt_of_cell? _ _ p2
       clear hwo HS1 HS5 c2 HSl HW
       go_region_law (first | (refine step_all_raw elemInt (by rfl) (.tmp 46) (.tmp 49) (by rfl) _ 0 [] (by rfl) wo.heap.size (by first | exact own_emptyx (by simp) (by simp) | exact (own_emptyx (by simp) (by simp)).alloc _) (by first | (simp;done) | (simp;omega)) ao k cap b o ((xs.take k).map (.int .i64)) (by rfl) (by first | exact HS1'.out.keeps ((Keeps.refl wo).alloc _).drew | exact HS1'.out.keeps (((Keeps.refl wo).alloc _).alloc _).drew) HO1.out (by omega) (by omega) ?_;intro v1 w1 hown1 hgrow1 hat1;rw [Nat.zero_add,List.nil_append] at hown1;have hk1:Keeps wo w1:=(by first | exact Below.grown ((Keeps.refl wo).alloc _).drew hgrow1 (by first | (simp;done) | (simp;omega)) (fun j hj=>by simp [Act.eval,Value.ownBlock] at hj;omega) | exact Below.grown (((Keeps.refl wo).alloc _).alloc _).drew hgrow1 (by first | (simp;done) | (simp;omega)) (fun j hj=>by simp [Act.eval,Value.ownBlock] at hj;omega));have hz1:=hk1.size;have q2:=hk1.cell p2) | (refine step_one elemInt (by rfl) (.tmp 50) (.tmp 56) (by rfl) v1 k _ (by rfl) wo.heap.size (by first | exact hown1 | exact hown1.alloc _) (by first | omega | (simp;omega)) _ _ (.int .i64 l[i].date) (by rfl) (by first | exact hgrow1.cell (by go_simp) (by simp [Act.eval,Value.ownBlock]) | go_simp) (by rfl) (by omega) (by omega) ?_;intro v2 w2 hown2 hgrow2 hat2;have hk2:Keeps wo w2:=(by first | exact Below.grown hk1 hgrow2 hk1.size (fun j hj=>(hown1.lt j hj).1) | exact Below.grown (Keeps.alloc hk1 _) hgrow2 (by simp;omega) (fun j hj=>(hown1.lt j hj).1));have hz2:=hk2.size) | (refine step_all_raw elemInt (by rfl) (.tmp 57) (.tmp 60) (by rfl) v2 (k+1) _ (by rfl) wo.heap.size hown2 hz2 ao5 (xs.length - k) (cap - k) b (o+k) ((xs.map (.int .i64)).drop k) (by rfl) (HS5'.out.keeps hk2) HO2.out (by omega) (by omega) ?_;intro v3 w3 hown3 hgrow3 hat3;have hk3:Keeps wo w3:=Below.grown hk2 hgrow3 hk2.size (fun j hj=>(hown2.lt j hj).1)))
       all_goals
        have HW3:Hid (Keeps w w3∧w3.ownsRow w.heap.size 3 1 v3 (xs.take k ++ [l[i].date] ++ xs.drop k).length ((xs.take k ++ [l[i].date] ++ xs.drop k).map (.int .i64))):=Lib.hid ⟨HKO.out.trans hk3,ownsRow_le (by
         have h:=hown3
         rw [show k+1+(xs.length - k)=xs.length+1 from by omega] at h
         rw [HLN.out,List.map_append,List.map_append,List.map_drop];exact h) HKO.out.size⟩
        clear hown1 hgrow1 hat1 hk1 hz1 q2 hown2 hgrow2 hat2 hk2 hz2 hown3 hgrow3 hat3 hk3
        go_wp2_with fail
        go_roundw
        case rel=>exact ⟨i+1,_,by omega,by rw [HLN.out];omega,by go_num,HD2,HW3⟩
        case measure=>simp [intOf];omega
    ·obtain rfl:k=xs.length:=by omega
     have hk0:decide ((xs.length:Int) < (xs.length:Int))=false:=decide_eq_false (by omega)
     have HD2:Hid (IsDates (l.take (i+1)) (xs.take xs.length ++ [l[i].date] ++ xs.drop xs.length)):=Lib.hid (by rw [HT.out];exact HD.out.insert (by omega) HN.out (fun h=>by omega))
     go_wp2_with fail
     go_quiet (fail)
     go_wp2_with fail
     go_quiet (fail)
     go_wp2_with fail
     rename_i nq0
     have hk:=Nat.le_refl xs.length
     obtain ⟨ao5,hcf,hs5⟩:=Sl.cutFrom HSl.out Tryz.underlying69 Tryz.sizeOf3 xs.length (Nat.le_refl _)
     have hct:=run_cutTo Tryz.underlying69 Tryz.sizeOf3 ao xs.length cap xs.length (by omega) hcx
     rw [Nat.mul_one,Nat.sub_self] at hs5
     simp only [Nat.sub_self] at hcf
     have HS5:=Lib.hid hs5
     have HS1:=Lib.hid (HSl.out.takeInt xs.length (Nat.le_refl _))
     rw [List.length_take,Nat.min_self] at HS1
     have HO1:Hid (∀ u∈(xs.take xs.length).map (Value.int .i64),u.oneCell'=true):=Lib.hid (ints_oneCell _ _)
     have HO2:Hid (∀ u∈(xs.map (Value.int .i64)).drop xs.length,u.oneCell'=true):=Lib.hid (fun u hu=>ints_oneCell _ _ u (List.mem_of_mem_drop hu))
     have HLN:Hid ((xs.take xs.length ++ [l[i].date] ++ xs.drop xs.length).length=xs.length+1):=Lib.hid (by rw [List.length_append,List.length_append,List.length_take,List.length_drop,List.length_singleton];omega)
     clear hs5
     obtain ⟨wo,hwo⟩:∃ wo:World,((wa.drewN q).drewN nq0).drewN nq=wo:=⟨_,rfl⟩
     have p2:wo.cell? ⟨b2,o2+i * 4+2,none⟩=some (.int .i64 l[i].date):=by rw [← hwo];exact c2
     have HKO:Hid (Keeps w wo):=Lib.hid (by rw [← hwo];exact ((HW.out.1.drewN _).drewN _).drewN _)
     have HS1':Hid (Sl wo 1 ao xs.length cap b o ((xs.take xs.length).map (.int .i64))):=Lib.hid (by rw [← hwo];exact ((HS1.out.drewN _).drewN _).drewN _)
     have HS5':Hid (Sl wo 1 ao5 0 (cap - xs.length) b (o+xs.length) ((xs.map (.int .i64)).drop xs.length)):=Lib.hid (by rw [← hwo];exact ((HS5.out.drewN _).drewN _).drewN _)
     rw [hwo]
     have hbp:=World.block_lt_of_cell? _ _ p2
     clear hwo HS1 HS5 c2 HSl HW
     go_region_law (first | (refine step_all_raw elemInt (by rfl) (.tmp 46) (.tmp 49) (by rfl) _ 0 [] (by rfl) wo.heap.size (by first | exact own_emptyx (by simp) (by simp) | exact (own_emptyx (by simp) (by simp)).alloc _) (by first | (simp;done) | (simp;omega)) ao xs.length cap b o ((xs.take xs.length).map (.int .i64)) (by rfl) (by first | exact HS1'.out.keeps ((Keeps.refl wo).alloc _).drew | exact HS1'.out.keeps (((Keeps.refl wo).alloc _).alloc _).drew) HO1.out (by omega) (by omega) ?_;intro v1 w1 hown1 hgrow1 hat1;rw [Nat.zero_add,List.nil_append] at hown1;have hk1:Keeps wo w1:=(by first | exact Below.grown ((Keeps.refl wo).alloc _).drew hgrow1 (by first | (simp;done) | (simp;omega)) (fun j hj=>by simp [Act.eval,Value.ownBlock] at hj;omega) | exact Below.grown (((Keeps.refl wo).alloc _).alloc _).drew hgrow1 (by first | (simp;done) | (simp;omega)) (fun j hj=>by simp [Act.eval,Value.ownBlock] at hj;omega));have hz1:=hk1.size;have q2:=hk1.cell p2) | (refine step_one elemInt (by rfl) (.tmp 50) (.tmp 56) (by rfl) v1 xs.length _ (by rfl) wo.heap.size (by first | exact hown1 | exact hown1.alloc _) (by first | omega | (simp;omega)) _ _ (.int .i64 l[i].date) (by rfl) (by first | exact hgrow1.cell (by go_simp) (by simp [Act.eval,Value.ownBlock]) | go_simp) (by rfl) (by omega) (by omega) ?_;intro v2 w2 hown2 hgrow2 hat2;have hk2:Keeps wo w2:=(by first | exact Below.grown hk1 hgrow2 hk1.size (fun j hj=>(hown1.lt j hj).1) | exact Below.grown (Keeps.alloc hk1 _) hgrow2 (by simp;omega) (fun j hj=>(hown1.lt j hj).1));have hz2:=hk2.size) | (refine step_all_raw elemInt (by rfl) (.tmp 57) (.tmp 60) (by rfl) v2 (xs.length+1) _ (by rfl) wo.heap.size hown2 hz2 ao5 0 (cap - xs.length) b (o+xs.length) ((xs.map (.int .i64)).drop xs.length) (by rfl) (HS5'.out.keeps hk2) HO2.out (by omega) (by omega) ?_;intro v3 w3 hown3 hgrow3 hat3;have hk3:Keeps wo w3:=Below.grown hk2 hgrow3 hk2.size (fun j hj=>(hown2.lt j hj).1)))
     all_goals
      have HW3:Hid (Keeps w w3∧w3.ownsRow w.heap.size 3 1 v3 (xs.take xs.length ++ [l[i].date] ++ xs.drop xs.length).length ((xs.take xs.length ++ [l[i].date] ++ xs.drop xs.length).map (.int .i64))):=Lib.hid ⟨HKO.out.trans hk3,ownsRow_le (by
       have h:w3.ownsRow wo.heap.size 3 1 v3 (xs.length+1) _:=hown3
       rw [HLN.out,List.map_append,List.map_append,List.map_drop];exact h) HKO.out.size⟩
      clear hown1 hgrow1 hat1 hk1 hz1 q2 hown2 hgrow2 hat2 hk2 hz2 hown3 hgrow3 hat3 hk3
      go_wp2_with fail
      go_roundw
      case rel=>exact ⟨i+1,_,by omega,by rw [HLN.out];omega,by go_num,HD2,HW3⟩
      case measure=>simp [intOf];omega
  ·obtain rfl:i=l.length:=by omega
   have HQ:=Lib.hid HD.out
   rw [List.take_length] at HQ
   go_wp2_with fail
   go_ret
   exact ⟨_,xs,rfl,HW.out.2,HQ.out,HW.out.1⟩
end Go.Proofs.YtoaidbhiciaeaaaGreat

end
