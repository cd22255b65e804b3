/- Walks and plain facts that the claim rests on (MetR, ScopeR). No condition. -/
import Derived.Test.YtoaidbhiciaeaaaGreatPo19
import Derived.Test.YtoaidbhiciaeaaaGreatPo24
import Derived.Test.YtoaidbhiciaeaaaGreatPo10
import Derived.Test.YtoaidbhiciaeaaaGreatPo09
import Derived.Test.YtoaidbhiciaeaaaGreatPo01
set_option linter.unusedSimpArgs false
set_option linter.unusedVariables false
set_option maxHeartbeats 16000000
section
namespace Go.Proofs.YtoaidbhiciaeaaaGreat
open Go.RowKit
theorem fnI_snoc (φ:Nat→Int) (n:Nat):fnI φ (n+1)=fnI φ n ++ [φ n]:=by simp [fnI,List.range_succ]
set_option maxRecDepth 100000 in
theorem rall_any (G:Gc) (js:List Bool) (l:List Hol) (day:Int) (ao:Option Addr) (cap b o:Nat) (aol:Option Addr) (capl bl ol:Nat) (w:World) (HJ:Ents w ao js cap b o) (H:Hols w aol l capl bl ol) (hlen:l.length≤900) :
  Calls Tryz.prog 171 #[.agg #[G.c0,G.c1,G.c2,G.c3,G.c4,G.c5,G.c6,G.c7,G.c8,G.c9,G.c10,G.c11,G.c12,G.c13,G.c14,G.c15,G.c16,G.c17,G.c18,G.c19,.slice ao js.length cap],.slice aol l.length capl,.int .i64 day] w (OutL w (methR js l day).1 (methR js l day).2):=by
 have hcap:=HJ.capE
 have hle:=HJ.leE
 have HHJ:=Lib.hid HJ
 have hc1:∀ W,Keeps w W→Calls Tryz.prog 183 #[.int .i64 (js.length:Int),.slice aol l.length capl,.int .i64 day] W (OutBl W (ctlR (js.length:Int) l day).1 (ctlR (js.length:Int) l day).2):=fun W hk=>rcontrolled_any _ l day aol capl bl ol W (H.keeps hk) hlen
 have hc2:∀ W,Keeps w W→Calls Tryz.prog 184 #[.int .i64 (js.length:Int),.slice aol l.length capl,.int .i64 day] W (OutL W (votesR (js.length:Int) l day).1 (votesR (js.length:Int) l day).2):=fun W hk=>rvotes_any _ l day aol capl bl ol W (H.keeps hk) hlen
 rcases meth_cases js l day with ⟨hm1,hm,hv,hd,hq1,hq2,hq3⟩ | ⟨re,h0,hq1,hq2,hq3⟩
 ·unfold OutBl at hc1
  unfold OutL at hc2
  rw [hq1] at hc1
  rw [hq2] at hc2
  rw [hq3]
  simp only [fnB_len] at hc1
  simp only [fnI_len] at hc2
  have HC1:=Lib.hid hc1
  have HC2:=Lib.hid hc2
  clear hc1 hc2 hq1 hq2 hq3 HJ H hv hd
  go_enter Tryz.func171,Tryz.ntmps171
  go_wp2_with (first | (go_at_call 184;(refine (HC2.out _ (((Keeps.refl w).alloc _).trans K2.out)).mono ?_);rintro e w3 ⟨ao3,cap3,b3,o3,rfl,hs3,hk3⟩;have HS3:=Lib.hid hs3;have HS23:=Lib.hid (HS2.out.keeps hk3);have K3:=Lib.hid (K2.out.trans hk3);have hc3:=hs3.cap;have hl3:=hs3.le;clear hs3 hk3 g0 hbg;have g0:=K3.out.cell (p:=⟨w.heap.size,20,none⟩) (v:=.slice ao js.length cap) (by go_simp);have hbg:=World.block_lt_of_cell? _ _ g0) | (go_at_call 183;(refine (HC1.out _ ((Keeps.refl w).alloc _)).mono ?_);rintro e w2 ⟨ao2,cap2,b2,o2,rfl,hs2,hk2⟩;have HS2:=Lib.hid hs2;have K2:=Lib.hid hk2;have hc2:=hs2.cap;have hl2:=hs2.le;have g0:=hk2.cell (p:=⟨w.heap.size,20,none⟩) (v:=.slice ao js.length cap) (by go_simp);have hbg:=World.block_lt_of_cell? _ _ g0;clear hs2 hk2))
  go_loopw [12,13] (fun vo vi wy=>∃ k:Nat,k≤js.length∧vi=.int .i64 k∧Hid (Keeps w3 wy∧wy.ownsRow w3.heap.size 3 1 vo k ((fnI (mthE (f0 l day) js) k).map (.int .i64)))) (fun _ vi _=>js.length - (intOf vi).toNat)
  case atStart=>exact ⟨0,Nat.zero_le _,rfl,Lib.hid ⟨Keeps.refl _,World.ownsRow_nil _ _ _ _⟩⟩
  case round=>
   obtain ⟨k,hk,rfl,HX⟩:=hrel
   by_cases hlt:k < js.length
   ·have c1:=fnB_cell (HS23.out.keeps HX.out.1) k hlt
    have hix1:=(HS23.out.at1 Tryz.underlying234 Tryz.sizeOf4 k hlt)
    have c2:=fnI_cell (HS3.out.keeps HX.out.1) k hlt
    have hix2:=(HS3.out.at1 Tryz.underlying69 Tryz.sizeOf3 k hlt)
    have hj:=HHJ.out.keeps ((((Keeps.refl w).alloc _).trans K3.out).trans HX.out.1)
    have c3:=hj.joint k hlt
    have hix3:=hj.atE k hlt
    have g1:=HX.out.1.cell g0
    have hbg1:=World.block_lt_of_cell? _ _ g1
    have hgd:js.getD k false=js[k]:=by simp [List.getD,hlt]
    clear hj
    obtain ⟨v,hv⟩:∃ v,voteK (f0 l day) (inA (f0 l day) js.length js.length) k js.length=v:=⟨_,rfl⟩
    by_cases hv2:v < 2000
    ·have hv3:decide (2000≤v)=false:=decide_eq_false (by omega)
     cases hin:inA (f0 l day) js.length js.length k with
     | true=>
      have HM:=Lib.hid (mthE_full hin)
      rw [hin] at c1
      rw [hv] at c2
      clear hin hgd hv
      go_wp2_with (at_builtin;refine wpList_appx elemInt rfl _ _ rfl w3 _ _ _ rfl w3.heap.size HX.out.2 HX.out.1 HX.out.1.size [.int .i64 3] _ 1 rfl rfl rfl (by intro u hu;simp at hu;subst hu;rfl) (by omega) (by omega) ?_;intro v5 w5 hown5 hb5 hsz5;have HV5:Hid (Keeps w3 w5∧w5.ownsRow w3.heap.size 3 1 v5 (k+1) ((fnI (mthE (f0 l day) js) (k+1)).map (.int .i64))):=Lib.hid ⟨hb5,by rw [fnI_snoc,List.map_append,HM.out];exact hown5⟩;clear hown5 hb5 hsz5)
      go_roundw
      case rel=>exact ⟨k+1,by omega,by go_num,HV5⟩
      case measure=>simp [intOf];omega
     | false=>
      have HM:=Lib.hid (mthE_none hin (by rw [hv];exact hv2))
      rw [hin] at c1
      rw [hv] at c2
      clear hin hgd hv
      go_wp2_with (at_builtin;refine wpList_appx elemInt rfl _ _ rfl w3 _ _ _ rfl w3.heap.size HX.out.2 HX.out.1 HX.out.1.size [.int .i64 0] _ 1 rfl rfl rfl (by intro u hu;simp at hu;subst hu;rfl) (by omega) (by omega) ?_;intro v5 w5 hown5 hb5 hsz5;have HV5:Hid (Keeps w3 w5∧w5.ownsRow w3.heap.size 3 1 v5 (k+1) ((fnI (mthE (f0 l day) js) (k+1)).map (.int .i64))):=Lib.hid ⟨hb5,by rw [fnI_snoc,List.map_append,HM.out];exact hown5⟩;clear hown5 hb5 hsz5)
      go_roundw
      case rel=>exact ⟨k+1,by omega,by go_num,HV5⟩
      case measure=>simp [intOf];omega
    ·have hv3:decide (2000≤v)=true:=decide_eq_true (by omega)
     cases hin:inA (f0 l day) js.length js.length k with
     | true=>
      have HM:=Lib.hid (mthE_full hin)
      rw [hin] at c1
      rw [hv] at c2
      cases hjk:js[k] with
      | true=>
       rw [hjk] at c3
       clear hin hgd hv hjk
       go_wp2_with (at_builtin;refine wpList_appx elemInt rfl _ _ rfl w3 _ _ _ rfl w3.heap.size HX.out.2 HX.out.1 HX.out.1.size [.int .i64 3] _ 1 rfl rfl rfl (by intro u hu;simp at hu;subst hu;rfl) (by omega) (by omega) ?_;intro v5 w5 hown5 hb5 hsz5;have HV5:Hid (Keeps w3 w5∧w5.ownsRow w3.heap.size 3 1 v5 (k+1) ((fnI (mthE (f0 l day) js) (k+1)).map (.int .i64))):=Lib.hid ⟨hb5,by rw [fnI_snoc,List.map_append,HM.out];exact hown5⟩;clear hown5 hb5 hsz5)
       go_roundw
       case rel=>exact ⟨k+1,by omega,by go_num,HV5⟩
       case measure=>simp [intOf];omega
      | false=>
       rw [hjk] at c3
       clear hin hgd hv hjk
       go_wp2_with (at_builtin;refine wpList_appx elemInt rfl _ _ rfl w3 _ _ _ rfl w3.heap.size HX.out.2 HX.out.1 HX.out.1.size [.int .i64 3] _ 1 rfl rfl rfl (by intro u hu;simp at hu;subst hu;rfl) (by omega) (by omega) ?_;intro v5 w5 hown5 hb5 hsz5;have HV5:Hid (Keeps w3 w5∧w5.ownsRow w3.heap.size 3 1 v5 (k+1) ((fnI (mthE (f0 l day) js) (k+1)).map (.int .i64))):=Lib.hid ⟨hb5,by rw [fnI_snoc,List.map_append,HM.out];exact hown5⟩;clear hown5 hb5 hsz5)
       go_roundw
       case rel=>exact ⟨k+1,by omega,by go_num,HV5⟩
       case measure=>simp [intOf];omega
     | false=>
      rw [hin] at c1
      cases hjk:js[k] with
      | true=>
       have HM:=Lib.hid (mthE_joint hin (by rw [hv];exact hv2) (hgd.trans hjk))
       rw [hv] at c2
       rw [hjk] at c3
       clear hin hgd hv hjk
       go_wp2_with (at_builtin;refine wpList_appx elemInt rfl _ _ rfl w3 _ _ _ rfl w3.heap.size HX.out.2 HX.out.1 HX.out.1.size [.int .i64 2] _ 1 rfl rfl rfl (by intro u hu;simp at hu;subst hu;rfl) (by omega) (by omega) ?_;intro v5 w5 hown5 hb5 hsz5;have HV5:Hid (Keeps w3 w5∧w5.ownsRow w3.heap.size 3 1 v5 (k+1) ((fnI (mthE (f0 l day) js) (k+1)).map (.int .i64))):=Lib.hid ⟨hb5,by rw [fnI_snoc,List.map_append,HM.out];exact hown5⟩;clear hown5 hb5 hsz5)
       go_roundw
       case rel=>exact ⟨k+1,by omega,by go_num,HV5⟩
       case measure=>simp [intOf];omega
      | false=>
       have HM:=Lib.hid (mthE_equity hin (by rw [hv];exact hv2) (hgd.trans hjk))
       rw [hv] at c2
       rw [hjk] at c3
       clear hin hgd hv hjk
       go_wp2_with (at_builtin;refine wpList_appx elemInt rfl _ _ rfl w3 _ _ _ rfl w3.heap.size HX.out.2 HX.out.1 HX.out.1.size [.int .i64 1] _ 1 rfl rfl rfl (by intro u hu;simp at hu;subst hu;rfl) (by omega) (by omega) ?_;intro v5 w5 hown5 hb5 hsz5;have HV5:Hid (Keeps w3 w5∧w5.ownsRow w3.heap.size 3 1 v5 (k+1) ((fnI (mthE (f0 l day) js) (k+1)).map (.int .i64))):=Lib.hid ⟨hb5,by rw [fnI_snoc,List.map_append,HM.out];exact hown5⟩;clear hown5 hb5 hsz5)
       go_roundw
       case rel=>exact ⟨k+1,by omega,by go_num,HV5⟩
       case measure=>simp [intOf];omega
   ·obtain rfl:k=js.length:=by omega
    obtain ⟨hky,howny⟩:=HX.out
    obtain ⟨ao7,cap7,b7,rfl,hs7⟩:=Sl.own howny
    have HS7:=Lib.hid hs7
    have HKY:=Lib.hid hky
    clear hky howny hs7 HX
    go_wp2_with fail
    go_ret2
    refine ⟨ao7,cap7,b7,0,by simp only [fnI_len];rfl,?_,((Keeps.refl w).alloc _).trans (K3.out.trans HKY.out)⟩
    simp only [fnI_len]
    exact HS7.out
 ·unfold OutBl at hc1
  rw [hq1] at hc1
  rw [hq3]
  have HC1:=Lib.hid hc1
  have e2:(!(re == 0))=true:=by simpa using h0
  clear hc1 hc2 hq1 hq2 hq3 HJ H
  go_enter Tryz.func171,Tryz.ntmps171
  go_wp2_with (go_at_call 183;(refine (HC1.out _ ((Keeps.refl w).alloc _)).mono ?_);rintro e w2 ⟨ao2,cap2,b2,o2,rfl,hs2,hk2⟩;have HS2:=Lib.hid hs2;have K2:=Lib.hid hk2;have hc2:=hs2.cap;have hl2:=hs2.le;have g0:=hk2.cell (p:=⟨w.heap.size,20,none⟩) (v:=.slice ao js.length cap) (by go_simp);have hbg:=World.block_lt_of_cell? _ _ g0;clear hs2 hk2)
  go_ret2
  exact ⟨none,0,0,0,rfl,Sl.nil _ _,((Keeps.refl w).alloc _).trans K2.out⟩
set_option maxRecDepth 100000 in
theorem rmet_any (G:Gc) (js:List Bool) (l:List Hol) (en day:Int) (ao:Option Addr) (cap b o:Nat) (aol:Option Addr) (capl bl ol:Nat) (w:World) (HJ:Ents w ao js cap b o) (H:Hols w aol l capl bl ol) (hlen:l.length≤900) :
  Calls Tryz.prog 143 #[.agg #[G.c0,G.c1,G.c2,G.c3,G.c4,G.c5,G.c6,G.c7,G.c8,G.c9,G.c10,G.c11,G.c12,G.c13,G.c14,G.c15,G.c16,G.c17,G.c18,G.c19,.slice ao js.length cap],.slice aol l.length capl,.int .i64 en,.int .i64 day] w fun e w'=>e=.returned (.tuple #[.int .i64 (matR' js l en day).1,.int .i64 (matR' js l en day).2])∧Keeps w w':=by
 have hall:=fun W (hk:Keeps w W)=>rall_any G js l day ao cap b o aol capl bl ol W (HJ.keeps hk) (H.keeps hk) hlen
 have hcap:=HJ.capE
 have hle:=HJ.leE
 have hload:=(RowB.new w 29 (grpC G (.slice ao js.length cap))).range
 obtain ⟨⟨rl,re⟩,hr⟩:∃ r,methR js l day=r:=⟨_,rfl⟩
 have hall0:=hall
 rw [hr] at hall
 have HALL:Hid (∀ W,Keeps w W→Calls Tryz.prog 171 #[.agg #[G.c0,G.c1,G.c2,G.c3,G.c4,G.c5,G.c6,G.c7,G.c8,G.c9,G.c10,G.c11,G.c12,G.c13,G.c14,G.c15,G.c16,G.c17,G.c18,G.c19,.slice ao js.length cap],.slice aol l.length capl,.int .i64 day] W fun e w'=>∃ ao cap b o,e=.returned (.tuple #[.slice ao rl.length cap,.int .i64 re])∧Sl w' 1 ao rl.length cap b o (rl.map (.int .i64))∧Keeps W w'):=Lib.hid hall
 clear hall hall0
 by_cases h0:re=0
 ·subst h0
  have hrl:rl=fnI (mthE (f0 l day) js) js.length:=by
   rcases meth_cases js l day with ⟨_,_,_,_,_,_,hq⟩ | ⟨re,h1,_,_,hq⟩
   ·rw [hq] at hr;simpa using hr.symm
   ·rw [hq] at hr;simp at hr;exact absurd hr.2 h1
  subst hrl
  simp only [fnI_len] at HALL
  by_cases he:0≤en∧en < (js.length:Int)
  ·have HQ:Hid (matR' js l en day=(mthE (f0 l day) js en.toNat,0)):=Lib.hid (by unfold matR';rw [hr,if_pos rfl,if_pos he])
   obtain ⟨k,rfl⟩:∃ k:Nat,en=(k:Int):=⟨en.toNat,by omega⟩
   have hkl:k < js.length:=by omega
   have e1:decide ((k:Int) < 0)=false:=decide_eq_false (by omega)
   have e2:decide ((js.length:Int)≤(k:Int))=false:=decide_eq_false (by omega)
   clear hr HJ H he
   go_enter Tryz.func143,Tryz.ntmps143
   go_wp2_with (first | (refine wpList_load_mid rfl 29 _ rfl w.heap.size 0 rfl (grpC G (.slice ao js.length cap)) _ hload Tryz.underlying29 rfl groupSize ?_) | (go_at_call 171;(refine (HALL.out _ ((Keeps.refl w).alloc _)).mono ?_);rintro e w2 ⟨ao2,cap2,b2,o2,rfl,hs2,hk2⟩;have c0:=fnI_cell hs2 k hkl;have hix:=(hs2.at1 Tryz.underlying69 Tryz.sizeOf3 k hkl);have hc2:=hs2.cap;have hl2:=hs2.le;have K2:=Lib.hid hk2;clear hs2 hk2))
   go_ret2
   rw [HQ.out,Int.toNat_natCast]
   exact ⟨rfl,((Keeps.refl w).alloc _).trans K2.out⟩
  ·have HQ:Hid (matR' js l en day=(0,2)):=Lib.hid (by unfold matR';rw [hr,if_pos rfl,if_neg he])
   by_cases hn:en < 0
   ·have e1:decide (en < 0)=true:=decide_eq_true hn
    clear hr HJ H he
    go_enter Tryz.func143,Tryz.ntmps143
    go_wp2_with (first | (refine wpList_load_mid rfl 29 _ rfl w.heap.size 0 rfl (grpC G (.slice ao js.length cap)) _ hload Tryz.underlying29 rfl groupSize ?_) | (go_at_call 171;(refine (HALL.out _ ((Keeps.refl w).alloc _)).mono ?_);rintro e w2 ⟨ao2,cap2,b2,o2,rfl,hs2,hk2⟩;have K2:=Lib.hid hk2;clear hs2 hk2))
    go_ret2
    rw [HQ.out]
    exact ⟨rfl,((Keeps.refl w).alloc _).trans K2.out⟩
   ·have e1:decide (en < 0)=false:=decide_eq_false hn
    have e2:decide ((js.length:Int)≤en)=true:=decide_eq_true (by omega)
    clear hr HJ H he
    go_enter Tryz.func143,Tryz.ntmps143
    go_wp2_with (first | (refine wpList_load_mid rfl 29 _ rfl w.heap.size 0 rfl (grpC G (.slice ao js.length cap)) _ hload Tryz.underlying29 rfl groupSize ?_) | (go_at_call 171;(refine (HALL.out _ ((Keeps.refl w).alloc _)).mono ?_);rintro e w2 ⟨ao2,cap2,b2,o2,rfl,hs2,hk2⟩;have K2:=Lib.hid hk2;clear hs2 hk2))
    go_ret2
    rw [HQ.out]
    exact ⟨rfl,((Keeps.refl w).alloc _).trans K2.out⟩
 ·have HQ:Hid (matR' js l en day=(0,re)):=Lib.hid (by unfold matR';rw [hr,if_neg h0])
  have e3:(!(re == 0))=true:=by simpa using h0
  clear hr HJ H
  go_enter Tryz.func143,Tryz.ntmps143
  go_wp2_with (first | (refine wpList_load_mid rfl 29 _ rfl w.heap.size 0 rfl (grpC G (.slice ao js.length cap)) _ hload Tryz.underlying29 rfl groupSize ?_) | (go_at_call 171;(refine (HALL.out _ ((Keeps.refl w).alloc _)).mono ?_);rintro e w2 ⟨ao2,cap2,b2,o2,rfl,hs2,hk2⟩;have K2:=Lib.hid hk2;clear hs2 hk2))
  go_ret2
  rw [HQ.out]
  exact ⟨rfl,((Keeps.refl w).alloc _).trans K2.out⟩
end Go.Proofs.YtoaidbhiciaeaaaGreat

end
section
namespace Go.Proofs.YtoaidbhiciaeaaaGreat
open Go.RowKit
theorem exec_load_mid {P:Program} {ev:Operand→Value} {op:Oper} {w:World} (ty:TypeId) (x:Operand) (ho:op.op=.load ty x) (b:Nat) (hx:ev x=.pointer (some ⟨b,0,none⟩)) (cs:List Value) (d:TypeDesc) (hc:w.rangeAt b 0 cs)
  (hu:P.underlying ty=some d) (hd:d.isRow=true) (hi:(P.info? ty).map (·.size)=some cs.length):(execOp ev op).run P w=.ok (.value (.agg cs.toArray)) w:=by
 unfold execOp
 simp only [ho,hx,Instr.loadAt,Instr.sureAddr,Sem.run_bind,Sem.run_pure,Result.andThen_ok,run_loadVar_mid w b 0 ty cs d hc hu hd hi]
theorem range_keeps {w w':World} {b o:Nat} {cs:List Value} (h:w.rangeAt b o cs) (k:Keeps w w'):w'.rangeAt b o cs:=fun j v hv=>k.cell (h j v hv)
theorem own_lit1 (w:World) (e:TypeId) (v:Value):(w.alloc (.cells #[v] e)).ownsRow w.heap.size e 1 (.slice (some ⟨w.heap.size,0,none⟩) 1 1) 1 [v]:=
 ⟨rfl,.inr ⟨w.heap.size,1,#[v],rfl,Nat.le_refl _,heap_alloc_new w _,Nat.le_refl _,by unfold maxLen;omega,rfl,rfl⟩⟩
theorem ivsF_len (m:Int→Int):∀ D:List Int,(ivsF m D).length≤D.length:=by
 intro D
 induction D using snoc_indI with
 | h0=>exact Nat.le_refl _
 | h1 D x ih=>
  rw [ivsF_snoc]
  have:=stepI_len m (ivsF m D) x
  simp;omega
set_option maxRecDepth 100000 in
theorem rivals_any (G:Gc) (js:List Bool) (l:List Hol) (xs:List Int) (hxs:IsDates l xs) (en:Int) (ao:Option Addr) (cap b o:Nat) (aol:Option Addr) (capl bl ol:Nat) (w:World) (HJ:Ents w ao js cap b o) (H:Hols w aol l capl bl ol) (hlen:l.length≤900) :
  Calls Tryz.prog 96 #[.agg #[G.c0,G.c1,G.c2,G.c3,G.c4,G.c5,G.c6,G.c7,G.c8,G.c9,G.c10,G.c11,G.c12,G.c13,G.c14,G.c15,G.c16,G.c17,G.c18,G.c19,.slice ao js.length cap],.slice aol l.length capl,.int .i64 en] w (IvOut w (ivR js l xs en)):=by
 have hcap:=HJ.capE
 have hle:=HJ.leE
 have HHJ:=Lib.hid HJ
 have HH:=Lib.hid H
 obtain ⟨vd,hvd⟩:∃ vd,hvalidB (js.length:Int) l=vd:=⟨_,rfl⟩
 have HV:Hid (∀ W,Keeps w W→Calls Tryz.prog 51 #[.int .i64 (js.length:Int),.slice aol l.length capl] W fun e w'=>e=.returned (.bool vd)∧Keeps W w'):=Lib.hid (fun W hk=>by have:=hrvalid_any (js.length:Int) aol l capl bl ol W (H.keeps hk) (by omega);rw [hvd] at this;exact this)
 have HXS:=Lib.hid hxs
 clear HJ H hxs
 cases vd with
 | false=>
  have HQ:=Lib.hid (ivR_1 (xs:=xs) (entity:=en) hvd)
  clear hvd
  go_enter Tryz.func96,Tryz.ntmps96
  go_wp2_with (go_at_call 51;refine (HV.out _ ((Keeps.refl w).alloc _)).mono ?_;rintro e w1 ⟨rfl,hk1⟩;have K1:=Lib.hid hk1;have hrg:=range_keeps (RowB.range (RowB.new w 29 (grpC G (.slice ao js.length cap)))) hk1;have g20:=hk1.cell (p:=⟨w.heap.size,20,none⟩) (v:=.slice ao js.length cap) (by go_simp);have HRG:=Lib.hid hrg;have hzg:=World.block_lt_of_cell? _ _ g20;clear hk1 hrg)
  go_ret2
  exact ⟨none,0,0,0,by rw [HQ.out];rfl,by rw [HQ.out];exact Sl.nil _ _,((Keeps.refl w).alloc _).trans K1.out⟩
 | true=>
  by_cases hr:0≤en∧en < (js.length:Int)
  ·by_cases h0:en=0
   ·subst h0
    have HQ:=Lib.hid (ivR_3 (xs:=xs) hvd hr rfl)
    have e2:decide (js=[])=false:=decide_eq_false (fun e=>by rw [e] at hr;simp at hr)
    clear hvd hr
    go_enter Tryz.func96,Tryz.ntmps96
    go_wp2_with (go_at_call 51;refine (HV.out _ ((Keeps.refl w).alloc _)).mono ?_;rintro e w1 ⟨rfl,hk1⟩;have K1:=Lib.hid hk1;have hrg:=range_keeps (RowB.range (RowB.new w 29 (grpC G (.slice ao js.length cap)))) hk1;have g20:=hk1.cell (p:=⟨w.heap.size,20,none⟩) (v:=.slice ao js.length cap) (by go_simp);have HRG:=Lib.hid hrg;have hzg:=World.block_lt_of_cell? _ _ g20;clear hk1 hrg)
    go_ret2
    refine ⟨some ⟨w1.heap.size,0,none⟩,1,w1.heap.size,0,by rw [HQ.out];rfl,by rw [HQ.out];exact Sl.block rfl (fun j u hj=>by rcases j with _ | _ | _ | j <;> simp [Ivl.cells] at hj <;> subst hj <;> go_simp),(((Keeps.refl w).alloc _).trans K1.out).alloc _⟩
   ·have HQ:=Lib.hid (ivR_4 (xs:=xs) hvd hr h0)
    have e1:decide (en < 0)=false:=decide_eq_false (by omega)
    have e2:decide ((js.length:Int)≤en)=false:=decide_eq_false (by omega)
    have e3:(en == 0)=false:=by simpa using h0
    obtain ⟨k,rfl⟩:∃ k:Nat,en=(k:Int):=⟨en.toNat,by omega⟩
    obtain ⟨m,hm⟩:∃ m,mAt js l k=m:=⟨_,rfl⟩
    rw [Int.toNat_natCast,hm] at HQ
    have HMT:Hid (∀ d,dateB d=true→matR' js l (k:Int) d=(m d,0)):=Lib.hid (fun d hd=>by rw [← hm];exact matR'_ok hvd hd (by omega))
    have HBD:Hid (∀ d∈sdays xs,dateB d=true):=Lib.hid (sdays_bd HXS.out hvd)
    have hxl:=HXS.out.len_le
    have HD:Hid (∀ W,Keeps w W→Calls Tryz.prog 142 #[.slice aol l.length capl] W (DatesOwn W l)):=Lib.hid (fun W hk=>hrdatesO_any aol l capl bl ol W (HH.out.keeps hk) (by omega))
    have e4:(k == 0)=false:=by simpa using h0
    have e5:decide (k=0)=false:=by simpa using h0
    have e6:decide (js.length≤k)=false:=decide_eq_false (by omega)
    clear hvd hr h0 hm
    go_enter Tryz.func96,Tryz.ntmps96
    go_wp2_with (first | (go_at_call 51;refine (HV.out _ ((Keeps.refl w).alloc _)).mono ?_;rintro e w1 ⟨rfl,hk1⟩;have K1:=Lib.hid hk1;have hrg:=range_keeps (RowB.range (RowB.new w 29 (grpC G (.slice ao js.length cap)))) hk1;have g20:=hk1.cell (p:=⟨w.heap.size,20,none⟩) (v:=.slice ao js.length cap) (by go_simp);have HRG:=Lib.hid hrg;have hzg:=World.block_lt_of_cell? _ _ g20;clear hk1 hrg) | (go_at_call 142;refine (HD.out _ ((((Keeps.refl w).alloc _).trans K1.out).alloc _)).mono ?_;rintro e w3 ⟨v3,zs,rfl,hv3,hd3,hk3⟩;obtain rfl:=hd3.eq HXS.out;obtain ⟨ao3,cap3,b3,rfl,hs3⟩:=Sl.own hv3;have HV3:=Lib.hid hv3;have K3:=Lib.hid hk3;have hc3:=hs3.cap;have hl3:=hs3.le;clear hs3 hd3 hk3 hv3))
    have hsz3:=K3.out.size
    rw [World.size_alloc] at hsz3
    have HL0:Hid (w3.ownsRow w1.heap.size 3 1 (.slice (some ⟨w1.heap.size,0,none⟩) 1 1) (sdaysK zs 0).length ((sdaysK zs 0).map (.int .i64))):=Lib.hid (own_keepsH (own_lit1 w1 3 (.int .i64 (-25567))) K3.out)
    have HV3':Hid (w3.ownsRow w1.heap.size 3 1 (.slice ao3 zs.length cap3) zs.length (zs.map (.int .i64))):=Lib.hid (ownsRow_le HV3.out (by simp))
    have HSP:Hid (Sep (.slice ao3 zs.length cap3) (.slice (some ⟨w1.heap.size,0,none⟩) 1 1)):=Lib.hid (by
     cases hob:(Value.slice ao3 zs.length cap3).ownBlock with
     | none=>exact .inl hob
     | some g=>
      have:=(HV3.out.lt g hob).1
      rw [World.size_alloc] at this
      exact .inr (.inr (by rw [hob];simp [Value.ownBlock];omega)))
    have HB3:Hid (Below w1.heap.size w1 w3):=Lib.hid ((((Keeps.refl w1).alloc _).trans K3.out))
    clear HV3
    go_loopw [8,10] (fun vb vi wr=>∃ j:Nat,j≤zs.length∧vi=.int .i64 j∧Hid (Below w1.heap.size w1 wr∧w1.heap.size≤wr.heap.size∧wr.ownsRow w1.heap.size 3 1 vb (sdaysK zs j).length ((sdaysK zs j).map (.int .i64))∧wr.ownsRow w1.heap.size 3 1 (.slice ao3 zs.length cap3) zs.length (zs.map (.int .i64))∧Sep (.slice ao3 zs.length cap3) vb)) (fun _ vi _=>zs.length - (intOf vi).toNat)
    case atStart=>exact ⟨0,Nat.zero_le _,rfl,Lib.hid ⟨HB3.out,by omega,HL0.out,HV3'.out,HSP.out⟩⟩
    case round=>
     clear HL0 HV3' HSP HB3
     obtain ⟨j,hj,rfl,HX⟩:=hrel
     by_cases hlt:j < zs.length
     ·obtain ⟨ao5,cap5,b5,e5,hs5⟩:=Sl.own HX.out.2.2.2.1
      simp only [Value.slice.injEq] at e5
      obtain ⟨rfl,_,rfl⟩:=e5
      have hix:=hs5.at1 Tryz.underlying69 Tryz.sizeOf3 j hlt
      have cj:=hs5.int j hlt
      simp only [Nat.zero_add] at hix cj
      have hbj:=World.block_lt_of_cell? _ _ cj
      have hln:=sdaysK_len' zs j hj
      clear hs5
      by_cases hgt:-25567 < zs[j]
      ·have hgt':decide (-25567 < zs[j])=true:=decide_eq_true hgt
       have HNX:Hid (sdaysK zs (j+1)=sdaysK zs j ++ [zs[j]]):=Lib.hid (sdaysK_yes' hlt hgt)
       obtain ⟨d,hd⟩:∃ d,zs[j]=d:=⟨_,rfl⟩
       rw [hd] at HNX cj hgt'
       clear hgt hd
       go_wp2_with (at_builtin;refine wpList_app2 elemInt rfl _ _ (by rfl) w1 _ _ _ (by rfl) w1.heap.size HX.out.2.2.1 HX.out.1 HX.out.2.1 _ _ _ HX.out.2.2.2.1 HX.out.2.2.2.2 [.int .i64 d] 1 (by rfl) (by rfl) (by intro u hu;simp at hu;subst hu;rfl) (by omega) (by omega) ?_;intro v5 w5 hown5 hown6 hsep5 hb5 hz5;have HW5:Hid (Below w1.heap.size w1 w5∧w1.heap.size≤w5.heap.size∧w5.ownsRow w1.heap.size 3 1 v5 (sdaysK zs (j+1)).length ((sdaysK zs (j+1)).map (.int .i64))∧w5.ownsRow w1.heap.size 3 1 (.slice ao3 zs.length cap3) zs.length (zs.map (.int .i64))∧Sep (.slice ao3 zs.length cap3) v5):=Lib.hid ⟨hb5,hz5,by rw [HNX.out,List.length_append,List.map_append];exact hown5,hown6,hsep5⟩;clear hown5 hown6 hsep5 hb5 hz5)
       go_roundw
       case rel=>exact ⟨j+1,by omega,by go_num,HW5⟩
       case measure=>simp [intOf];omega
      ·have hgt':decide (-25567 < zs[j])=false:=decide_eq_false hgt
       have HNX:Hid (sdaysK zs (j+1)=sdaysK zs j):=Lib.hid (sdaysK_no hlt hgt)
       clear hgt
       go_wp2_with fail
       go_roundw
       case rel=>exact ⟨j+1,by omega,by go_num,by rw [HNX.out];exact HX⟩
       case measure=>simp [intOf];omega
     ·obtain rfl:j=zs.length:=by omega
      rw [sdaysK_all] at HX
      have hD1:(sdays zs).length≤zs.length+1:=by have:=sdaysK_len' zs zs.length (Nat.le_refl _);rwa [sdaysK_all] at this
      obtain ⟨w4,rfl⟩:∃ w4:World,w4=wr:=⟨_,rfl⟩
      obtain ⟨ao6,cap6,b6,rfl,hs6⟩:=Sl.own HX.out.2.2.1
      have HS6:=Lib.hid hs6
      have hc6:=hs6.cap
      have hl6:=hs6.le
      have K4:Hid (Keeps w w4):=Lib.hid ((((Keeps.refl w).alloc _).trans K1.out).trans HX.out.1)
      have HRG4:Hid (w4.rangeAt w.heap.size 0 (grpC G (.slice ao js.length cap))):=Lib.hid (range_keeps HRG.out HX.out.1)
      clear hs6 HRG g20 HX
      go_wp2_with fail
      go_loopw [11,12] (fun vo vi wr=>∃ i:Nat,i≤(sdays zs).length∧vi=.int .i64 i∧Hid (Keeps w4 wr∧wr.ownsRow w4.heap.size 127 3 vo (ivsF m ((sdays zs).take i)).length ((ivsF m ((sdays zs).take i)).flatMap Ivl.cells))) (fun _ vi _=>(sdays zs).length - (intOf vi).toNat)
      case atStart=>exact ⟨0,Nat.zero_le _,rfl,Lib.hid ⟨Keeps.refl _,World.ownsRow_nil _ _ _ _⟩⟩
      case round=>
       obtain ⟨i,hi,rfl,HX⟩:=hrel
       by_cases hlt:i < (sdays zs).length
       ·have hd:=HBD.out _ (List.getElem_mem hlt)
        have HT:=Lib.hid (take_snoc (sdays zs) i hlt)
        have hix0:=HS6.out.at1 Tryz.underlying69 Tryz.sizeOf3 i hlt
        have hcd:=HS6.out.int i hlt
        simp only [Nat.zero_add] at hix0 hcd
        obtain ⟨d,hde⟩:∃ d,(sdays zs)[i]=d:=⟨_,rfl⟩
        rw [hde] at hd hcd HT
        have HSB:Hid (∀ W,Keeps wr.drew W→W.cell? ⟨b6,i,none⟩=some (.int .i64 d)∧b6 < W.heap.size):=Lib.hid (fun W hk=>⟨(HX.out.1.drew.trans hk).cell hcd,World.block_lt_of_cell? _ _ ((HX.out.1.drew.trans hk).cell hcd)⟩)
        have HRW:Hid (∀ W,Keeps wr.drew W→W.rangeAt w.heap.size 0 (grpC G (.slice ao js.length cap))):=Lib.hid (fun W hk=>range_keeps HRG4.out (HX.out.1.drew.trans hk))
        have HM:Hid (∀ W,Keeps wr.drew W→Calls Tryz.prog 143 #[.agg #[G.c0,G.c1,G.c2,G.c3,G.c4,G.c5,G.c6,G.c7,G.c8,G.c9,G.c10,G.c11,G.c12,G.c13,G.c14,G.c15,G.c16,G.c17,G.c18,G.c19,.slice ao js.length cap],.slice aol l.length capl,.int .i64 (k:Int),.int .i64 d] W fun e w'=>e=.returned (.tuple #[.int .i64 (m d),.int .i64 0])∧Keeps W w'):=Lib.hid (fun W hk=>by
         have:=rmet_any G js l (k:Int) d ao cap b o aol capl bl ol W (HHJ.out.keeps (K4.out.trans (HX.out.1.drew.trans hk))) (HH.out.keeps (K4.out.trans (HX.out.1.drew.trans hk))) hlen
         rw [HMT.out d hd] at this
         exact this)
        have hb6:=World.block_lt_of_cell? _ _ hcd
        clear hde hd hcd
        obtain ⟨wx,rfl⟩:∃ wx:World,wx=wr:=⟨_,rfl⟩
        go_wp2_with fail
        refine wp_region_steps (A:=?_) Keeps [some 62,some 63,some 64,some 65,some 66,some 67,some 68,some 69,some 61,some 70,some 71,some 13,some 14] [[],[],[],[],[],[3,4],[5],[0,1,2,6],[7],[8],[8],[9],[10]] 13 (by kernel_rfl) (by kernel_rfl) (by kernel_rfl) (by kernel_rfl) (by kernel_rfl) (by kernel_rfl) Keeps.refl (fun _ _ _=>Keeps.trans) ?_ ?_
        rotate_left
        ·intro f;simp only [putL,Act.put,List.setIfInBounds_toArray,List.set_cons_zero,List.set_cons_succ,Nat.zero_add,Nat.reduceAdd];exact rfl
        refine Steps.pure (v:=.agg (grpC G (.slice ao js.length cap)).toArray) Keeps.refl rfl (fun f w' hR hV=>⟨?_,?_⟩) ?_
        ·(rfl)
        ·(clear hV;obtain ⟨cd,hbd⟩:=HSB.out _ hR;exact exec_load_mid 29 _ rfl w.heap.size rfl _ _ (HRW.out _ hR) Tryz.underlying29 rfl groupSize)
        iterate 6 (refine Steps.pure (v:=?_) Keeps.refl rfl (fun f w' hR hV=>⟨?_,?_⟩) ?_;rotate_left;(focus rfl);(focus ((repeat (obtain ⟨hq,hV⟩:=hV;(try replace hq:_=_:=hq)));obtain ⟨cd,hbd⟩:=HSB.out _ hR;go_simp;all_goals (try with_reducible rfl))))
        refine Steps.call (fun _ v=>v=.tuple #[.int .i64 (m d),.int .i64 0]) rfl (fun _ _ _ _ h=>h) (fun f w' hR hV=>⟨?_,?_⟩) ?_
        ·(rfl)
        ·(obtain ⟨h0,h1,h2,h6,_⟩:=hV;replace h0:f 0=_:=h0;replace h1:f 1=_:=h1;replace h2:f 2=_:=h2;replace h6:f 6=_:=h6;obtain ⟨cd,hbd⟩:=HSB.out _ hR;go_simp;go_at_call 143;refine (HM.out _ hR).mono ?_;rintro e w5 ⟨rfl,hk5⟩;exact StepPost.of _ rfl rfl hk5)
        iterate 5 (refine Steps.pure (v:=?_) Keeps.refl rfl (fun f w' hR hV=>⟨?_,?_⟩) ?_;rotate_left;(focus rfl);(focus ((repeat (obtain ⟨hq,hV⟩:=hV;(try replace hq:_=_:=hq)));obtain ⟨cd,hbd⟩:=HSB.out _ hR;go_simp;all_goals (try with_reducible rfl))))
        all_goals (refine Steps.done [11,12] (by kernel_rfl) rfl (fun f wq hR hV=>?_);obtain ⟨h11,h12,_⟩:=hV;replace h11:f 11=_:=h11;replace h12:f 12=_:=h12;simp only [h11];simp only [h12])
        have KQ:Keeps wx wq:=(Keeps.refl wx).drew.trans hR
        have hbd:=(HSB.out _ hR).1
        have hbz:=(HSB.out _ hR).2
        have hown0:=own_keepsH HX.out.2 KQ
        have KX:=Lib.hid (HX.out.1.trans KQ)
        have hszq:=KX.out.size
        clear hR KQ HX HSB HRW HM
        by_cases hi0:(sdays zs).take i=[]
        ·have HNX:Hid (ivsF m ((sdays zs).take (i+1))=[⟨d,84006,m d⟩]):=Lib.hid (by rw [HT.out,hi0];rfl)
         rw [hi0] at hown0
         have hown1:wq.ownsRow w4.heap.size 127 3 _ 0 []:=hown0
         obtain ⟨aov,capv,bv,rfl,hsv⟩:=Sl.own hown1
         have HOWN:=Lib.hid hown1
         clear hown0 hown1 hsv hi0
         go_wp2_with (at_builtin;refine wpList_appx elemIvl rfl _ _ (by rfl) w4 _ 0 [] (by rfl) w4.heap.size HOWN.out KX.out hszq (Ivl.cells ⟨d,84006,m d⟩) _ 1 (by rfl) (by rfl) (by rfl) (ivl_one _) (by omega) (by omega) ?_;intro v5 w5 hown5 hb5 hz5;have HX5:Hid (Keeps w4 w5∧w5.ownsRow w4.heap.size 127 3 v5 (ivsF m ((sdays zs).take (i+1))).length ((ivsF m ((sdays zs).take (i+1))).flatMap Ivl.cells)):=Lib.hid ⟨hb5,by rw [HNX.out];exact hown5⟩;clear hown5 hb5 hz5)
         go_roundw
         case rel=>exact ⟨i+1,by omega,by go_num,HX5⟩
         case measure=>simp [intOf];omega
        ·obtain ⟨zl,hzl⟩:∃ zl,((sdays zs).take i).getLast?=some zl:=⟨_,List.getLast?_eq_some_getLast hi0⟩
         obtain ⟨o1,z,hiv,_⟩:=ivsF_last (m:=m) hzl
         have hol:o1.length+1≤902:=by
          have h1:(ivsF m ((sdays zs).take i)).length≤((sdays zs).take i).length:=ivsF_len m _
          rw [hiv,List.length_take] at h1
          simp at h1
          omega
         rw [hiv,List.length_append,List.length_singleton] at hown0
         obtain ⟨g,cg,rfl⟩:=ownsRow_succ hown0
         obtain ⟨c22,c21,f51,hix,hcg,hlg,hlt2⟩:=ivl_facts hown0
         have hgb:=(hown0.lt g rfl).1
         have hk0:decide (0 < (o1.length:Int)+1)=true:=decide_eq_true (by omega)
         have HROW:=Lib.hid hown0
         have HIV:=Lib.hid hiv
         clear hown0 hiv hzl hi0
         by_cases hz:z.mth=m d
         ·have hze:(z.mth == m d)=true:=by simpa using hz
          have HNX:Hid (ivsF m ((sdays zs).take (i+1))=o1 ++ [z]):=Lib.hid (by rw [HT.out,ivsF_snoc,HIV.out];exact stepI_same hz)
          have HX5:Hid (Keeps w4 wq∧wq.ownsRow w4.heap.size 127 3 (.slice (some ⟨g,0,none⟩) (o1.length+1) cg) (ivsF m ((sdays zs).take (i+1))).length ((ivsF m ((sdays zs).take (i+1))).flatMap Ivl.cells)):=Lib.hid ⟨KX.out,by rw [HNX.out,List.length_append];exact HROW.out⟩
          clear hz
          go_wp2_with fail
          go_roundw
          case rel=>exact ⟨i+1,by omega,by go_num,HX5⟩
          case measure=>simp [intOf];omega
         ·have hze:(z.mth == m d)=false:=by simpa using hz
          have HNX:Hid (ivsF m ((sdays zs).take (i+1))=o1 ++ [endsAt z d] ++ [⟨d,84006,m d⟩]):=Lib.hid (by rw [HT.out,ivsF_snoc,HIV.out];exact stepI_new hz)
          have hst:=HROW.out.stored (o1.length * 3+1) (.int .i64 d)
          rw [flat_endsAt] at hst
          have HST:=Lib.hid hst.1
          have KST:Hid (Keeps w4 (wq.setCell ⟨g,o1.length * 3+1,none⟩ (.int .i64 d))):=Lib.hid (KX.out.setCell (p:=⟨g,o1.length * 3+1,none⟩) hgb _)
          have hsz6:=KST.out.size
          have hne1:b6≠g:=(fun e=>by rw [e] at hb6;exact Nat.lt_irrefl _ (Nat.lt_of_lt_of_le hb6 hgb))
          have hne2:g≠b6:=fun e=>hne1 e.symm
          clear hz hst
          go_wp2_with (at_builtin;refine wpList_appx elemIvl rfl _ _ (by rfl) w4 _ (o1.length+1) ((o1 ++ [endsAt z d]).flatMap Ivl.cells) (by rfl) w4.heap.size HST.out KST.out hsz6 (Ivl.cells ⟨d,84006,m d⟩) _ 1 (by rfl) (by first | rfl | simp [World.setCell]) (by rfl) (ivl_one _) (by omega) (by omega) ?_;intro v5 w5 hown5 hb5 hz5;have HX5:Hid (Keeps w4 w5∧w5.ownsRow w4.heap.size 127 3 v5 (ivsF m ((sdays zs).take (i+1))).length ((ivsF m ((sdays zs).take (i+1))).flatMap Ivl.cells)):=Lib.hid ⟨hb5,by rw [HNX.out,List.length_append,List.length_append,List.flatMap_append (xs:=o1 ++ [endsAt z d])];simpa [List.flatMap] using hown5⟩;clear hown5 hb5 hz5)
          go_roundw
          case rel=>exact ⟨i+1,by omega,by go_num,HX5⟩
          case measure=>simp [intOf];omega
       ·obtain rfl:i=(sdays zs).length:=by omega
        rw [List.take_length] at HX
        obtain ⟨ao9,cap9,b9,rfl,hs9⟩:=Recs.own HX.out.2
        go_wp2_with fail
        go_ret2
        exact ⟨ao9,cap9,b9,0,by rw [HQ.out];rfl,by rw [HQ.out];exact hs9,K4.out.trans HX.out.1⟩
  ·have HQ:=Lib.hid (ivR_2 (xs:=xs) hvd hr)
   by_cases h1:en < 0
   ·have e1:decide (en < 0)=true:=decide_eq_true h1
    clear hvd hr
    go_enter Tryz.func96,Tryz.ntmps96
    go_wp2_with (go_at_call 51;refine (HV.out _ ((Keeps.refl w).alloc _)).mono ?_;rintro e w1 ⟨rfl,hk1⟩;have K1:=Lib.hid hk1;have hrg:=range_keeps (RowB.range (RowB.new w 29 (grpC G (.slice ao js.length cap)))) hk1;have g20:=hk1.cell (p:=⟨w.heap.size,20,none⟩) (v:=.slice ao js.length cap) (by go_simp);have HRG:=Lib.hid hrg;have hzg:=World.block_lt_of_cell? _ _ g20;clear hk1 hrg)
    go_ret2
    exact ⟨none,0,0,0,by rw [HQ.out];rfl,by rw [HQ.out];exact Sl.nil _ _,((Keeps.refl w).alloc _).trans K1.out⟩
   ·have e1:decide (en < 0)=false:=decide_eq_false h1
    have e2:decide ((js.length:Int)≤en)=true:=decide_eq_true (by omega)
    clear hvd hr
    go_enter Tryz.func96,Tryz.ntmps96
    go_wp2_with (go_at_call 51;refine (HV.out _ ((Keeps.refl w).alloc _)).mono ?_;rintro e w1 ⟨rfl,hk1⟩;have K1:=Lib.hid hk1;have hrg:=range_keeps (RowB.range (RowB.new w 29 (grpC G (.slice ao js.length cap)))) hk1;have g20:=hk1.cell (p:=⟨w.heap.size,20,none⟩) (v:=.slice ao js.length cap) (by go_simp);have HRG:=Lib.hid hrg;have hzg:=World.block_lt_of_cell? _ _ g20;clear hk1 hrg)
    go_ret2
    exact ⟨none,0,0,0,by rw [HQ.out];rfl,by rw [HQ.out];exact Sl.nil _ _,((Keeps.refl w).alloc _).trans K1.out⟩
end Go.Proofs.YtoaidbhiciaeaaaGreat

end
