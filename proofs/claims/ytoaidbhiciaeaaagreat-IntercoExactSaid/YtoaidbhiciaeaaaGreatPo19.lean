/- Walks and plain facts that the claim rests on (MetW, GrpP, GrpW, GrpC). No condition. -/
import Derived.Test.YtoaidbhiciaeaaaGreatPo18
import Derived.Test.YtoaidbhiciaeaaaGreatPo06
import Derived.Test.YtoaidbhiciaeaaaGreatPo14
import Derived.Test.YtoaidbhiciaeaaaGreatPo16
import Derived.StringKeys
set_option linter.unusedSimpArgs false
set_option linter.unusedVariables false
set_option maxHeartbeats 16000000
section
namespace Go.Proofs.YtoaidbhiciaeaaaGreat
open Go.RowKit
def Ents (w:World) (ao:Option Addr) (js:List Bool) (cap b o:Nat):Prop:=∃ cs,Sl w 5 ao js.length cap b o cs∧∀ k (h:k < js.length),cs[k * 5+4]?=some (.bool js[k])
section
variable {w w':World} {ao:Option Addr} {js:List Bool} {cap b o:Nat}
theorem Ents.keeps (h:Ents w ao js cap b o) (k:Keeps w w'):Ents w' ao js cap b o:=by obtain ⟨cs,h1,h2⟩:=h;exact ⟨cs,h1.keeps k,h2⟩
theorem Ents.capE (h:Ents w ao js cap b o):cap≤9223372036854775807:=by obtain ⟨cs,h1,_⟩:=h;exact h1.cap
theorem Ents.leE (h:Ents w ao js cap b o):js.length≤cap:=by obtain ⟨cs,h1,_⟩:=h;exact h1.le
theorem Ents.joint (h:Ents w ao js cap b o) (k:Nat) (hk:k < js.length):w.cell? ⟨b,o+k * 5+4,none⟩=some (.bool js[k]):=by obtain ⟨cs,h1,h2⟩:=h;rw [Nat.add_assoc];exact h1.cell _ _ (h2 k hk)
theorem Ents.atE (h:Ents w ao js cap b o) (k:Nat) (hk:k < js.length):∀ w',(Instr.indexAt 27 (.slice ao js.length cap) (.int .i64 (k:Int))).run Tryz.prog w'=.ok (.pointer (some ⟨b,o+k * 5,none⟩)) w':=by obtain ⟨cs,h1,_⟩:=h;exact Sl.at h1 Tryz.underlying27 Tryz.sizeOf106 k hk
end
def upM (V:Nat→Int) (k:Nat):Nat→Int:=fun e=>if e < k then V e else 0
theorem upM_step (V:Nat→Int) (k:Nat) (v:Int) (h:V k=v) (i:Nat):updI (upM V k) k v i=upM V (k+1) i:=upv_step h i
theorem ctl_any (n:Int) (l:List Hol) (day:Int) (ao:Option Addr) (cap b o:Nat) (w:World) (H:Hols w ao l cap b o) (hlen:l.length≤900) (hok:∀ x∈l,x.Ok) :
  Calls Tryz.prog 192 #[.int .i64 n,.slice ao l.length cap,.int .i64 day] w (OutL w (votesR n l day).1 (votesR n l day).2):=callsIn_wide.1 (votes_in n l day ao cap b o w H hlen hok)
set_option maxRecDepth 100000 in
theorem all_any (G:Gc) (js:List Bool) (l:List Hol) (day:Int) (ao:Option Addr) (cap b o:Nat) (aol:Option Addr) (capl bl ol:Nat) (w:World) (HJ:Ents w ao js cap b o) (H:Hols w aol l capl bl ol) (hlen:l.length≤900) (hok:∀ x∈l,x.Ok) :
  Calls Tryz.prog 186 #[.agg #[G.c0,G.c1,G.c2,G.c3,G.c4,G.c5,G.c6,G.c7,G.c8,G.c9,G.c10,G.c11,G.c12,G.c13,G.c14,G.c15,G.c16,G.c17,G.c18,G.c19,.slice ao js.length cap],.slice aol l.length capl,.int .i64 day] w (OutL w (methR js l day).1 (methR js l day).2):=by
 have hcap:=HJ.capE
 have hle:=HJ.leE
 have HHJ:=Lib.hid HJ
 have hc1:∀ W,Keeps w W→Calls Tryz.prog 191 #[.int .i64 (js.length:Int),.slice aol l.length capl,.int .i64 day] W (OutBl W (ctlR (js.length:Int) l day).1 (ctlR (js.length:Int) l day).2):=fun W hk=>controlled_any _ l day aol capl bl ol W (H.keeps hk) hlen hok
 have hc2:∀ W,Keeps w W→Calls Tryz.prog 192 #[.int .i64 (js.length:Int),.slice aol l.length capl,.int .i64 day] W (OutL W (votesR (js.length:Int) l day).1 (votesR (js.length:Int) l day).2):=fun W hk=>ctl_any _ l day aol capl bl ol W (H.keeps hk) hlen hok
 rcases meth_cases js l day with ⟨hm1,hm,hv,hd,hq1,hq2,hq3⟩ | ⟨re,h0,hq1,hq2,hq3⟩
 ·unfold OutBl at hc1
  unfold OutL at hc2
  rw [hq1] at hc1
  rw [hq2] at hc2
  rw [hq3]
  simp only [fnB_len] at hc1
  simp only [fnI_len] at hc2
  have HC1:=Lib.hid hc1
  have HC2:=Lib.hid hc2
  obtain ⟨i0,hi,hz0,hz1,hz2⟩:=info_parts infoIntC
  clear hc1 hc2 hq1 hq2 hq3 HJ H hok hv hd
  go_enter Tryz.func186,Tryz.ntmps186
  go_wp2_with (first | (go_at_call 192;(refine (HC2.out _ (((Keeps.refl w).alloc _).trans K2.out)).mono ?_);rintro e w3 ⟨ao3,cap3,b3,o3,rfl,hs3,hk3⟩;have HS3:=Lib.hid hs3;have HS23:=Lib.hid (HS2.out.keeps hk3);have K3:=Lib.hid (K2.out.trans hk3);have hc3:=hs3.cap;have hl3:=hs3.le;clear hs3 hk3 g0 hbg;have g0:=K3.out.cell (p:=⟨w.heap.size,20,none⟩) (v:=.slice ao js.length cap) (by go_simp);have hbg:=World.block_lt_of_cell? _ _ g0) | (go_at_call 191;(refine (HC1.out _ ((Keeps.refl w).alloc _)).mono ?_);rintro e w2 ⟨ao2,cap2,b2,o2,rfl,hs2,hk2⟩;have HS2:=Lib.hid hs2;have K2:=Lib.hid hk2;have hc2:=hs2.cap;have hl2:=hs2.le;have g0:=hk2.cell (p:=⟨w.heap.size,20,none⟩) (v:=.slice ao js.length cap) (by go_simp);have hbg:=World.block_lt_of_cell? _ _ g0;clear hs2 hk2) | (at_make;refine wpList_makeZ _ rfl _ _ 69 rfl 3 i0 (.int .i64 0) Tryz.underlying69 hi hz0 hz1 rfl _ _ _ _ js.length rfl rfl rfl rfl (by rw [hz2];omega) (by omega) ?_))
  have HR0:Hid (RkW w3 (w3.alloc (Obj.cells (Array.replicate js.length (Value.int IntKind.i64 0)) 3)) js.length (fun _=>0)):=Lib.hid ⟨by
   rw [← rowI_zero]
   have:=RowB.new w3 3 (List.replicate js.length (.int .i64 0))
   simpa using this,(Keeps.refl w3).alloc _⟩
  go_loopw [41] (fun vi wy=>∃ k:Nat,k≤js.length∧vi=.int .i64 k∧Hid (RkW w3 wy js.length (upM (mthE (f0 l day) js) k))) (fun vi _=>js.length - (intOf vi).toNat)
  case atStart=>exact ⟨0,Nat.zero_le _,rfl,Lib.hid (HR0.out.congr fun i _=>by unfold upM;rw [if_neg (Nat.not_lt_zero _)])⟩
  case round=>
   obtain ⟨k,hk,rfl,HX⟩:=hrel
   by_cases hlt:k < js.length
   ·have c1:=fnB_cell (HS23.out.keeps HX.out.2) k hlt
    have hix1:=(HS23.out.at1 Tryz.underlying234 Tryz.sizeOf4 k hlt)
    have c2:=fnI_cell (HS3.out.keeps HX.out.2) k hlt
    have hix2:=(HS3.out.at1 Tryz.underlying69 Tryz.sizeOf3 k hlt)
    have hj:=HHJ.out.keeps ((((Keeps.refl w).alloc _).trans K3.out).trans HX.out.2)
    have c3:=hj.joint k hlt
    have hix3:=hj.atE k hlt
    have g1:=HX.out.2.cell g0
    have hbg1:=World.block_lt_of_cell? _ _ g1
    have c0:=HX.out.1.cell k _ (rowI_get _ _ _ hlt)
    have f0':=HX.out.1.frozen k
    have hb0:=HX.out.1.lt
    have hgd:js.getD k false=js[k]:=by simp [List.getD,hlt]
    clear hj
    cases hin:inA (f0 l day) js.length js.length k with
    | true=>
     have HM:=Lib.hid (mthE_full hin)
     rw [hin] at c1
     clear hin hgd
     go_wp2_with fail
     go_roundw
     case rel=>exact ⟨k+1,by omega,by go_num,Lib.hid ((HX.out.set k 3).congr fun i _=>upM_step _ k 3 HM.out i)⟩
     case measure=>simp [intOf];omega
    | false=>
     rw [hin] at c1
     obtain ⟨v,hv⟩:∃ v,voteK (f0 l day) (inA (f0 l day) js.length js.length) k js.length=v:=⟨_,rfl⟩
     by_cases hv2:v < 2000
     ·have HM:=Lib.hid (mthE_none hin (by rw [hv];exact hv2))
      rw [hv] at c2
      have hv3:decide (v < 2000)=true:=decide_eq_true hv2
      clear hin hgd hv
      go_wp2_with fail
      go_roundw
      case rel=>exact ⟨k+1,by omega,by go_num,Lib.hid ((HX.out.set k 0).congr fun i _=>upM_step _ k 0 HM.out i)⟩
      case measure=>simp [intOf];omega
     ·have hv3:decide (v < 2000)=false:=decide_eq_false hv2
      cases hjk:js[k] with
      | true=>
       have HM:=Lib.hid (mthE_joint hin (by rw [hv];exact hv2) (hgd.trans hjk))
       rw [hv] at c2
       rw [hjk] at c3
       clear hin hgd hv hjk
       go_wp2_with fail
       go_roundw
       case rel=>exact ⟨k+1,by omega,by go_num,Lib.hid ((HX.out.set k 2).congr fun i _=>upM_step _ k 2 HM.out i)⟩
       case measure=>simp [intOf];omega
      | false=>
       have HM:=Lib.hid (mthE_equity hin (by rw [hv];exact hv2) (hgd.trans hjk))
       rw [hv] at c2
       rw [hjk] at c3
       clear hin hgd hv hjk
       go_wp2_with fail
       go_roundw
       case rel=>exact ⟨k+1,by omega,by go_num,Lib.hid ((HX.out.set k 1).congr fun i _=>upM_step _ k 1 HM.out i)⟩
       case measure=>simp [intOf];omega
   ·obtain rfl:k=js.length:=by omega
    have HZ:=Lib.hid (HX.out.congr (ψ:=mthE (f0 l day) js) fun i hi=>by unfold upM;rw [if_pos hi])
    go_wp2_with fail
    go_ret2
    refine ⟨some ⟨w3.heap.size,0,none⟩,js.length,w3.heap.size,0,by simp only [fnI_len];rfl,?_,((Keeps.refl w).alloc _).trans (K3.out.trans HZ.out.2)⟩
    simp only [fnI_len]
    exact HZ.out.1.slI (by omega)
 ·unfold OutBl at hc1
  rw [hq1] at hc1
  rw [hq3]
  have HC1:=Lib.hid hc1
  have e2:(!(re == 0))=true:=by simpa using h0
  clear hc1 hc2 hq1 hq2 hq3 HJ H hok
  go_enter Tryz.func186,Tryz.ntmps186
  go_wp2_with (go_at_call 191;(refine (HC1.out _ ((Keeps.refl w).alloc _)).mono ?_);rintro e w2 ⟨ao2,cap2,b2,o2,rfl,hs2,hk2⟩;have HS2:=Lib.hid hs2;have K2:=Lib.hid hk2;have hc2:=hs2.cap;have hl2:=hs2.le;have g0:=hk2.cell (p:=⟨w.heap.size,20,none⟩) (v:=.slice ao js.length cap) (by go_simp);have hbg:=World.block_lt_of_cell? _ _ g0;clear hs2 hk2)
  go_ret2
  exact ⟨none,0,0,0,rfl,Sl.nil _ _,((Keeps.refl w).alloc _).trans K2.out⟩
set_option maxRecDepth 100000 in
theorem met_any (G:Gc) (js:List Bool) (l:List Hol) (en day:Int) (ao:Option Addr) (cap b o:Nat) (aol:Option Addr) (capl bl ol:Nat) (w:World) (HJ:Ents w ao js cap b o) (H:Hols w aol l capl bl ol) (hlen:l.length≤900) (hok:∀ x∈l,x.Ok) :
  Calls Tryz.prog 178 #[.agg #[G.c0,G.c1,G.c2,G.c3,G.c4,G.c5,G.c6,G.c7,G.c8,G.c9,G.c10,G.c11,G.c12,G.c13,G.c14,G.c15,G.c16,G.c17,G.c18,G.c19,.slice ao js.length cap],.slice aol l.length capl,.int .i64 en,.int .i64 day] w fun e w'=>e=.returned (.tuple #[.int .i64 (matR' js l en day).1,.int .i64 (matR' js l en day).2])∧Keeps w w':=by
 have hall:=fun W (hk:Keeps w W)=>all_any G js l day ao cap b o aol capl bl ol W (HJ.keeps hk) (H.keeps hk) hlen hok
 have hcap:=HJ.capE
 have hle:=HJ.leE
 have hload:=(RowB.new w 29 (grpC G (.slice ao js.length cap))).range
 obtain ⟨⟨rl,re⟩,hr⟩:∃ r,methR js l day=r:=⟨_,rfl⟩
 have hall0:=hall
 rw [hr] at hall
 have HALL:Hid (∀ W,Keeps w W→Calls Tryz.prog 186 #[.agg #[G.c0,G.c1,G.c2,G.c3,G.c4,G.c5,G.c6,G.c7,G.c8,G.c9,G.c10,G.c11,G.c12,G.c13,G.c14,G.c15,G.c16,G.c17,G.c18,G.c19,.slice ao js.length cap],.slice aol l.length capl,.int .i64 day] W fun e w'=>∃ ao cap b o,e=.returned (.tuple #[.slice ao rl.length cap,.int .i64 re])∧Sl w' 1 ao rl.length cap b o (rl.map (.int .i64))∧Keeps W w'):=Lib.hid hall
 clear hall hall0
 by_cases h0:re=0
 ·subst h0
  have hrl:rl=fnI (mthE (f0 l day) js) js.length:=by
   rcases meth_cases js l day with ⟨_,_,_,_,_,_,hq⟩ | ⟨re,h1,_,_,hq⟩
   ·rw [hq] at hr;simpa using hr.symm
   ·rw [hq] at hr;simp at hr;exact absurd hr.2 h1
  subst hrl
  simp only [fnI_len] at HALL
  by_cases he:0≤en∧en < (js.length:Int)
  ·have HQ:Hid (matR' js l en day=(mthE (f0 l day) js en.toNat,0)):=Lib.hid (by unfold matR';rw [hr,if_pos rfl,if_pos he])
   obtain ⟨k,rfl⟩:∃ k:Nat,en=(k:Int):=⟨en.toNat,by omega⟩
   have hkl:k < js.length:=by omega
   have e1:decide ((k:Int) < 0)=false:=decide_eq_false (by omega)
   have e2:decide ((js.length:Int)≤(k:Int))=false:=decide_eq_false (by omega)
   clear hr HJ H he
   go_enter Tryz.func178,Tryz.ntmps178
   go_wp2_with (first | (refine wpList_load_mid rfl 29 _ rfl w.heap.size 0 rfl (grpC G (.slice ao js.length cap)) _ hload Tryz.underlying29 rfl groupSize ?_) | (go_at_call 186;(refine (HALL.out _ ((Keeps.refl w).alloc _)).mono ?_);rintro e w2 ⟨ao2,cap2,b2,o2,rfl,hs2,hk2⟩;have c0:=fnI_cell hs2 k hkl;have hix:=(hs2.at1 Tryz.underlying69 Tryz.sizeOf3 k hkl);have hc2:=hs2.cap;have hl2:=hs2.le;have K2:=Lib.hid hk2;clear hs2 hk2))
   go_ret2
   rw [HQ.out,Int.toNat_natCast]
   exact ⟨rfl,((Keeps.refl w).alloc _).trans K2.out⟩
  ·have HQ:Hid (matR' js l en day=(0,2)):=Lib.hid (by unfold matR';rw [hr,if_pos rfl,if_neg he])
   by_cases hn:en < 0
   ·have e1:decide (en < 0)=true:=decide_eq_true hn
    clear hr HJ H he
    go_enter Tryz.func178,Tryz.ntmps178
    go_wp2_with (first | (refine wpList_load_mid rfl 29 _ rfl w.heap.size 0 rfl (grpC G (.slice ao js.length cap)) _ hload Tryz.underlying29 rfl groupSize ?_) | (go_at_call 186;(refine (HALL.out _ ((Keeps.refl w).alloc _)).mono ?_);rintro e w2 ⟨ao2,cap2,b2,o2,rfl,hs2,hk2⟩;have K2:=Lib.hid hk2;clear hs2 hk2))
    go_ret2
    rw [HQ.out]
    exact ⟨rfl,((Keeps.refl w).alloc _).trans K2.out⟩
   ·have e1:decide (en < 0)=false:=decide_eq_false hn
    have e2:decide ((js.length:Int)≤en)=true:=decide_eq_true (by omega)
    clear hr HJ H he
    go_enter Tryz.func178,Tryz.ntmps178
    go_wp2_with (first | (refine wpList_load_mid rfl 29 _ rfl w.heap.size 0 rfl (grpC G (.slice ao js.length cap)) _ hload Tryz.underlying29 rfl groupSize ?_) | (go_at_call 186;(refine (HALL.out _ ((Keeps.refl w).alloc _)).mono ?_);rintro e w2 ⟨ao2,cap2,b2,o2,rfl,hs2,hk2⟩;have K2:=Lib.hid hk2;clear hs2 hk2))
    go_ret2
    rw [HQ.out]
    exact ⟨rfl,((Keeps.refl w).alloc _).trans K2.out⟩
 ·have HQ:Hid (matR' js l en day=(0,re)):=Lib.hid (by unfold matR';rw [hr,if_neg h0])
  have e3:(!(re == 0))=true:=by simpa using h0
  clear hr HJ H
  go_enter Tryz.func178,Tryz.ntmps178
  go_wp2_with (first | (refine wpList_load_mid rfl 29 _ rfl w.heap.size 0 rfl (grpC G (.slice ao js.length cap)) _ hload Tryz.underlying29 rfl groupSize ?_) | (go_at_call 186;(refine (HALL.out _ ((Keeps.refl w).alloc _)).mono ?_);rintro e w2 ⟨ao2,cap2,b2,o2,rfl,hs2,hk2⟩;have K2:=Lib.hid hk2;clear hs2 hk2))
  go_ret2
  rw [HQ.out]
  exact ⟨rfl,((Keeps.refl w).alloc _).trans K2.out⟩
end Go.Proofs.YtoaidbhiciaeaaaGreat

end
section
namespace Go.Proofs.YtoaidbhiciaeaaaGreat
open Go.RowKit Go.Maps
structure Rls where
 (r0 r1 r2 r3 r4 r5 r6 r7 r8 r9 r10 r11 r12 r13 r14:Int)
structure Rol where
 nm:ByteArray
 code:Int
 kind:Int
 basis:Int
 mapped:Bool
def Rol.cells (r:Rol):List Value:=[.string r.nm,.int .i64 r.code,.int .i64 r.kind,.int .i64 r.basis,.bool r.mapped]
theorem Rol.len (r:Rol):r.cells.length=5:=rfl
def Rls.vals (r:Rls):List Value:=[.int .i64 r.r0,.int .i64 r.r1,.int .i64 r.r2,.int .i64 r.r3,.int .i64 r.r4,.int .i64 r.r5,.int .i64 r.r6,.int .i64 r.r7,.int .i64 r.r8,.int .i64 r.r9,.int .i64 r.r10,.int .i64 r.r11,.int .i64 r.r12,.int .i64 r.r13,.int .i64 r.r14]
def rolesL (r:Rls):List Rol:=[
 ⟨⟨#[105,110,118,101,115,116,109,101,110,116]⟩,r.r0,1,3,true⟩,
 ⟨⟨#[103,111,111,100,119,105,108,108]⟩,r.r1,1,3,false⟩,
 ⟨⟨#[97,115,115,111,99,105,97,116,101,115]⟩,r.r2,1,3,false⟩,
 ⟨⟨#[105,110,118,101,110,116,111,114,121]⟩,r.r3,1,1,true⟩,
 ⟨⟨#[114,101,115,101,114,118,101]⟩,r.r4,3,3,false⟩,
 ⟨⟨#[109,105,110,111,114,105,116,121]⟩,r.r5,3,3,false⟩,
 ⟨⟨#[114,101,116,97,105,110,101,100]⟩,r.r6,3,3,true⟩,
 ⟨⟨#[97,99,113,117,105,114,101,100]⟩,r.r7,3,3,false⟩,
 ⟨⟨#[111,119,110,101,114,115]⟩,r.r8,3,3,false⟩,
 ⟨⟨#[100,105,115,112,111,115,97,108]⟩,r.r9,4,2,false⟩,
 ⟨⟨#[97,115,115,111,99,105,97,116,101,80,114,111,102,105,116]⟩,r.r10,4,2,false⟩,
 ⟨⟨#[100,105,118,105,100,101,110,100,115]⟩,r.r11,4,2,true⟩,
 ⟨⟨#[109,105,110,111,114,105,116,121,80,114,111,102,105,116]⟩,r.r12,5,2,false⟩,
 ⟨⟨#[100,105,102,102,101,114,101,110,99,101]⟩,r.r13,5,2,false⟩,
 ⟨⟨#[109,97,114,103,105,110]⟩,r.r14,5,2,false⟩]
theorem rolesL_len (r:Rls):(rolesL r).length=15:=rfl
structure Grp where
 cur:ByteArray
 y:Int
 m:Int
 n:Int
 chart:List Acc
 rl:Rls
 ents:List Ent
def Grp.cells (g:Grp) (cv ev:Value):List Value:=[.string g.cur,.int .i64 g.y,.int .i64 g.m,.int .i64 g.n,cv,.int .i64 g.rl.r0,.int .i64 g.rl.r1,.int .i64 g.rl.r2,.int .i64 g.rl.r3,.int .i64 g.rl.r4,.int .i64 g.rl.r5,.int .i64 g.rl.r6,.int .i64 g.rl.r7,.int .i64 g.rl.r8,.int .i64 g.rl.r9,.int .i64 g.rl.r10,.int .i64 g.rl.r11,.int .i64 g.rl.r12,.int .i64 g.rl.r13,.int .i64 g.rl.r14,ev]
def basedB (a:Acc):Bool:=if a.kind=1∨a.kind=2 then a.basis == 1 || a.basis == 3 else if a.kind=3 then a.basis == 3 else a.basis == 2
def okRole (c:List Acc) (l:List Rol) (k:Nat):Bool:=match l[k]? with
 | none=>true
 | some r=>match findA c r.code with
  | none=>false
  | some a=>!((l.take k).any (fun q=>q.code == r.code)) && (a.kind == r.kind && a.basis == r.basis)
def accB (g:Grp):Bool:=validRB g.chart true && (!(g.chart.any (fun a=>!basedB a)) && (List.range (rolesL g.rl).length).all (okRole g.chart (rolesL g.rl)))
def closedP (l:List Rol) (c:Int):Bool:=match l.reverse.find? (fun r=>r.code == c) with
 | none=>false
 | some r=>!r.mapped
def entB (g:Grp) (e:Ent):Bool:=nameB e.name && (curB e.cur && (mvalidB e g.chart && !(e.links.any (fun l=>closedP (rolesL g.rl) l.to))))
def okEnt (g:Grp) (k:Nat):Bool:=match g.ents[k]? with
 | none=>true
 | some e=>!((g.ents.take k).any (fun q=>decide (q.name=e.name))) && entB g e
def jointAt (g:Grp) (k:Nat):Bool:=(g.ents[k]?.map Ent.joint).getD false
def grpB (g:Grp):Bool:=curB g.cur && (calB g.y g.m g.n && (accB g && (decide (1≤g.ents.length) && (decide (g.ents.length≤12) && (!(jointAt g 0) && (List.range g.ents.length).all (okEnt g))))))
def Rls.Ok (r:Rls):Prop:=∀ q∈rolesL r,I64 q.code
def Acc.OkA (x:Acc):Prop:=I64 x.code∧I64 x.parent
def Lnk.OkL (x:Lnk):Prop:=I64 x.frm∧I64 x.to∧I64 x.since
def Ent.Ok (e:Ent):Prop:=e.name.size≤maxLen∧e.cur.size≤maxLen∧e.chart.length≤200∧e.links.length≤400∧(∀ x∈e.chart,x.OkA)∧∀ x∈e.links,x.OkL
def Grp.Ok (g:Grp):Prop:=g.cur.size≤maxLen∧g.chart.length≤200∧(∀ x∈g.chart,x.OkA)∧g.rl.Ok∧(∀ e∈g.ents,e.Ok)∧g.ents.length≤1000
def EntsV (w:World) (ao:Option Addr) (l:List Ent) (cap b o:Nat):Prop:=∃ cs,Sl w 5 ao l.length cap b o cs∧∀ k (h:k < l.length),∃ c v,(∀ j u,[Value.string l[k].name,.string l[k].cur,c,v,.bool l[k].joint][j]?=some u→cs[k * 5+j]?=some u)∧AccL w c l[k].chart∧LnkL w v l[k].links
section
variable {w w':World} {ao:Option Addr} {l:List Ent} {cap b o:Nat}
theorem EntsV.keeps (h:EntsV w ao l cap b o) (k:Keeps w w'):EntsV w' ao l cap b o:=by
 obtain ⟨cs,h1,h2⟩:=h
 refine ⟨cs,h1.keeps k,fun i hi=>?_⟩
 obtain ⟨c,v,h3,h4,h5⟩:=h2 i hi
 exact ⟨c,v,h3,h4.keeps k,h5.keeps k⟩
theorem EntsV.capE (h:EntsV w ao l cap b o):cap≤9223372036854775807:=by obtain ⟨cs,h1,_⟩:=h;exact h1.cap
theorem EntsV.leE (h:EntsV w ao l cap b o):l.length≤cap:=by obtain ⟨cs,h1,_⟩:=h;exact h1.le
theorem EntsV.atE (h:EntsV w ao l cap b o) (k:Nat) (hk:k < l.length):∀ w',(Instr.indexAt 27 (.slice ao l.length cap) (.int .i64 (k:Int))).run Tryz.prog w'=.ok (.pointer (some ⟨b,o+k * 5,none⟩)) w':=by obtain ⟨cs,h1,_⟩:=h;exact Sl.at h1 Tryz.underlying27 Tryz.sizeOf106 k hk
theorem EntsV.ent (h:EntsV w ao l cap b o) (k:Nat) (hk:k < l.length):∃ aoC capC bC oC aoL capL bL oL,Accs w aoC l[k].chart capC bC oC∧Lnks w aoL l[k].links capL bL oL∧
  w.rangeAt b (o+k * 5) [.string l[k].name,.string l[k].cur,.slice aoC l[k].chart.length capC,.slice aoL l[k].links.length capL,.bool l[k].joint]:=by
 obtain ⟨cs,h1,h2⟩:=h
 obtain ⟨c,v,h3,⟨aoC,capC,bC,oC,rfl,hC⟩,⟨aoL,capL,bL,oL,rfl,hL⟩⟩:=h2 k hk
 refine ⟨aoC,capC,bC,oC,aoL,capL,bL,oL,hC,hL,fun j u hu=>?_⟩
 have:=h1.cell _ _ (h3 j u hu)
 rw [show o+k * 5+j=o+(k * 5+j) from by omega]
 exact this
theorem EntsV.ents (h:EntsV w ao l cap b o):Ents w ao (l.map Ent.joint) cap b o:=by
 obtain ⟨cs,h1,h2⟩:=h
 refine ⟨cs,by rw [List.length_map];exact h1,fun k hk=>?_⟩
 rw [List.length_map] at hk
 obtain ⟨c,v,h3,_⟩:=h2 k hk
 rw [List.getElem_map]
 exact h3 4 _ rfl
end
theorem range_sub {w:World} {b:Nat} {cs:List Value} (h:w.rangeAt b 0 cs) (o:Nat) (ds:List Value) (hd:∀ j v,ds[j]?=some v→cs[o+j]?=some v):w.rangeAt b o ds:=fun j v hv=>by
 have:=h (o+j) v (hd j v hv)
 rwa [Nat.zero_add] at this
theorem rolesSize:(Tryz.prog.info? 26).map (·.size)=some 15:=by kernel_rfl
theorem entSize:(Tryz.prog.info? 106).map (·.size)=some 5:=by kernel_rfl
theorem okRole_at {c:List Acc} {l:List Rol} {k:Nat} (hk:k < l.length):okRole c l k=((findA c l[k].code).isSome && (!((l.take k).any (fun q=>q.code == l[k].code)) && (((findA c l[k].code).getD Acc.zero).kind == l[k].kind && ((findA c l[k].code).getD Acc.zero).basis == l[k].basis))):=by
 unfold okRole
 rw [List.getElem?_eq_getElem hk]
 cases h:findA c l[k].code <;> simp [h]
theorem okEnt_at {g:Grp} {k:Nat} (hk:k < g.ents.length):okEnt g k=(!((g.ents.take k).any (fun q=>decide (q.name=g.ents[k].name))) && entB g g.ents[k]):=by
 unfold okEnt
 rw [List.getElem?_eq_getElem hk]
def strK:KeyEnc Tryz.prog 9 ByteArray where
 enc s:=.string s
 lit s:=.string s.data.toList
 ok s:=s.size≤maxLen
 keyed:=Keyed.of_law (Go.WideMaps.string_law Tryz.underlying9)
 key s h:=Go.WideMaps.keyOf_string_mk Tryz.underlying9 h
 inj a b _ _ h:=by simpa using h
def seenS (ls:List ByteArray):ByteArray→Option Value:=fun d=>if ls.any (fun s=>decide (s=d)) then some (.bool true) else none
theorem seenS_nil:seenS []=fun _=>none:=by funext d;simp [seenS]
theorem seenS_get (ls:List ByteArray) (s:ByteArray):(seenS ls s).getD (.bool false)=.bool (ls.any (fun a=>decide (a=s))):=by
 unfold seenS
 cases h:ls.any (fun a=>decide (a=s)) <;> simp
theorem seenS_snoc (ls:List ByteArray) (s:ByteArray):seenS (ls ++ [s]) s=some (.bool true)∧∀ d,d≠s→seenS (ls ++ [s]) d=seenS ls d:=by
 refine ⟨by simp [seenS],fun d hd=>?_⟩
 have:decide (s=d)=false:=decide_eq_false (fun e=>hd e.symm)
 unfold seenS
 rw [List.any_append,show ([s].any fun q=>decide (q=d))=false from by rw [List.any_cons,this];rfl,Bool.or_false]
end Go.Proofs.YtoaidbhiciaeaaaGreat

end
section
namespace Go.Proofs.YtoaidbhiciaeaaaGreat
open Go.RowKit
set_option maxRecDepth 100000 in
theorem rolesP_any (r:Rls) (w:World):Calls Tryz.prog 102 #[.agg #[.int .i64 r.r0,.int .i64 r.r1,.int .i64 r.r2,.int .i64 r.r3,.int .i64 r.r4,.int .i64 r.r5,.int .i64 r.r6,.int .i64 r.r7,.int .i64 r.r8,.int .i64 r.r9,.int .i64 r.r10,.int .i64 r.r11,.int .i64 r.r12,.int .i64 r.r13,.int .i64 r.r14]] w fun e w'=>e=.returned (.slice (some ⟨w.heap.size+1,0,none⟩) 15 15)∧Recs w' 5 Rol.cells (some ⟨w.heap.size+1,0,none⟩) (rolesL r) 15 (w.heap.size+1) 0∧Keeps w w':=by
 have hl:=Sl.lit (w.alloc (.cells #[.int .i64 r.r0,.int .i64 r.r1,.int .i64 r.r2,.int .i64 r.r3,.int .i64 r.r4,.int .i64 r.r5,.int .i64 r.r6,.int .i64 r.r7,.int .i64 r.r8,.int .i64 r.r9,.int .i64 r.r10,.int .i64 r.r11,.int .i64 r.r12,.int .i64 r.r13,.int .i64 r.r14] 26)) 5 15 ((rolesL r).flatMap Rol.cells) 169 rfl (by omega)
 rw [World.size_alloc] at hl
 have HL:=Lib.hid hl
 clear hl
 go_enter Tryz.func102,Tryz.ntmps102
 go_wp2_with fail
 go_ret
 exact ⟨rfl,HL.out,((Keeps.refl w).alloc _).alloc _⟩
set_option maxRecDepth 100000 in
theorem rolesR_any (r:Rls) (w:World):Calls Tryz.prog 134 #[.agg #[.int .i64 r.r0,.int .i64 r.r1,.int .i64 r.r2,.int .i64 r.r3,.int .i64 r.r4,.int .i64 r.r5,.int .i64 r.r6,.int .i64 r.r7,.int .i64 r.r8,.int .i64 r.r9,.int .i64 r.r10,.int .i64 r.r11,.int .i64 r.r12,.int .i64 r.r13,.int .i64 r.r14]] w fun e w'=>e=.returned (.slice (some ⟨w.heap.size+1,0,none⟩) 15 15)∧Recs w' 5 Rol.cells (some ⟨w.heap.size+1,0,none⟩) (rolesL r) 15 (w.heap.size+1) 0∧Keeps w w':=by
 have hl:=Sl.lit (w.alloc (.cells #[.int .i64 r.r0,.int .i64 r.r1,.int .i64 r.r2,.int .i64 r.r3,.int .i64 r.r4,.int .i64 r.r5,.int .i64 r.r6,.int .i64 r.r7,.int .i64 r.r8,.int .i64 r.r9,.int .i64 r.r10,.int .i64 r.r11,.int .i64 r.r12,.int .i64 r.r13,.int .i64 r.r14] 26)) 5 15 ((rolesL r).flatMap Rol.cells) 198 rfl (by omega)
 rw [World.size_alloc] at hl
 have HL:=Lib.hid hl
 clear hl
 go_enter Tryz.func134,Tryz.ntmps134
 go_wp2_with fail
 go_ret
 exact ⟨rfl,HL.out,((Keeps.refl w).alloc _).alloc _⟩
theorem basedP_any (a:Acc) (w:World):Calls Tryz.prog 101 #[.agg #[.int .i64 a.code,.int .i64 a.kind,.int .i64 a.basis,.int .i64 a.parent]] w fun e w'=>e=.returned (.bool (basedB a))∧Keeps w w':=by
 obtain ⟨p1,h1⟩:∃ p,(a.kind == 1)=p:=⟨_,rfl⟩
 obtain ⟨p2,h2⟩:∃ p,(a.kind == 2)=p:=⟨_,rfl⟩
 obtain ⟨p3,h3⟩:∃ p,(a.kind == 3)=p:=⟨_,rfl⟩
 obtain ⟨b1,k1⟩:∃ p,(a.basis == 1)=p:=⟨_,rfl⟩
 obtain ⟨b2,k2⟩:∃ p,(a.basis == 2)=p:=⟨_,rfl⟩
 obtain ⟨b3,k3⟩:∃ p,(a.basis == 3)=p:=⟨_,rfl⟩
 have HB:Hid (basedB a=if (p1 || p2)=true then b1 || b3 else if p3=true then b3 else b2):=Lib.hid (by
  unfold basedB
  rw [← h1,← h2,← h3,← k1,← k2,← k3]
  simp)
 cases p1 with
 | true=>cases b1 <;> cases b3 <;> (go_enter Tryz.func101,Tryz.ntmps101;go_wp2_with fail;go_ret;exact ⟨by rw [HB.out];rfl,(Keeps.refl w).alloc _⟩)
 | false=>
  cases p2 with
  | true=>cases b1 <;> cases b3 <;> (go_enter Tryz.func101,Tryz.ntmps101;go_wp2_with fail;go_ret;exact ⟨by rw [HB.out];rfl,(Keeps.refl w).alloc _⟩)
  | false=>
   cases p3 with
   | true=>cases b3 <;> (go_enter Tryz.func101,Tryz.ntmps101;go_wp2_with fail;go_ret;exact ⟨by rw [HB.out];rfl,(Keeps.refl w).alloc _⟩)
   | false=>cases b2 <;> (go_enter Tryz.func101,Tryz.ntmps101;go_wp2_with fail;go_ret;exact ⟨by rw [HB.out];rfl,(Keeps.refl w).alloc _⟩)
theorem basedR_any (a:Acc) (w:World):Calls Tryz.prog 133 #[.agg #[.int .i64 a.code,.int .i64 a.kind,.int .i64 a.basis,.int .i64 a.parent]] w fun e w'=>e=.returned (.bool (basedB a))∧Keeps w w':=by
 obtain ⟨p1,h1⟩:∃ p,(a.kind == 1)=p:=⟨_,rfl⟩
 obtain ⟨p2,h2⟩:∃ p,(a.kind == 2)=p:=⟨_,rfl⟩
 obtain ⟨p3,h3⟩:∃ p,(a.kind == 3)=p:=⟨_,rfl⟩
 obtain ⟨b1,k1⟩:∃ p,(a.basis == 1)=p:=⟨_,rfl⟩
 obtain ⟨b2,k2⟩:∃ p,(a.basis == 2)=p:=⟨_,rfl⟩
 obtain ⟨b3,k3⟩:∃ p,(a.basis == 3)=p:=⟨_,rfl⟩
 have HB:Hid (basedB a=if (p1 || p2)=true then b1 || b3 else if p3=true then b3 else b2):=Lib.hid (by
  unfold basedB
  rw [← h1,← h2,← h3,← k1,← k2,← k3]
  simp)
 cases p1 with
 | true=>cases b1 <;> cases b3 <;> (go_enter Tryz.func133,Tryz.ntmps133;go_wp2_with fail;go_ret;exact ⟨by rw [HB.out];rfl,(Keeps.refl w).alloc _⟩)
 | false=>
  cases p2 with
  | true=>cases b1 <;> cases b3 <;> (go_enter Tryz.func133,Tryz.ntmps133;go_wp2_with fail;go_ret;exact ⟨by rw [HB.out];rfl,(Keeps.refl w).alloc _⟩)
  | false=>
   cases p3 with
   | true=>cases b3 <;> (go_enter Tryz.func133,Tryz.ntmps133;go_wp2_with fail;go_ret;exact ⟨by rw [HB.out];rfl,(Keeps.refl w).alloc _⟩)
   | false=>cases b2 <;> (go_enter Tryz.func133,Tryz.ntmps133;go_wp2_with fail;go_ret;exact ⟨by rw [HB.out];rfl,(Keeps.refl w).alloc _⟩)
theorem acc1_any (a:Acc) (w:World):Calls Tryz.prog 100 #[.agg #[.int .i64 a.code,.int .i64 a.kind,.int .i64 a.basis,.int .i64 a.parent]] w fun e w'=>e=.returned (.bool (!basedB a))∧Keeps w w':=by
 have HB:Hid (∀ W,Calls Tryz.prog 101 #[.agg #[.int .i64 a.code,.int .i64 a.kind,.int .i64 a.basis,.int .i64 a.parent]] W fun e w'=>e=.returned (.bool (basedB a))∧Keeps W w'):=Lib.hid (fun W=>basedP_any a W)
 obtain ⟨q,hq⟩:∃ q,basedB a=q:=⟨_,rfl⟩
 rw [hq] at HB ⊢
 clear hq
 go_enter Tryz.func100,Tryz.ntmps100
 go_wp2_with (go_at_call 101;refine (HB.out _).mono ?_;rintro e w1 ⟨rfl,hk1⟩)
 go_ret
 exact ⟨rfl,((Keeps.refl w).alloc _).trans hk1⟩
end Go.Proofs.YtoaidbhiciaeaaaGreat

end
section
namespace Go.Proofs.YtoaidbhiciaeaaaGreat
open Go.RowKit
def clsF (l:List Rol):Int→Option Value:=fun c=>(l.reverse.find? (fun r=>r.code == c)).map (fun r=>.bool (!r.mapped))
theorem clsF_nil:clsF []=fun _=>none:=rfl
theorem clsF_get (l:List Rol) (c:Int):(clsF l c).getD (.bool false)=.bool (closedP l c):=by
 unfold clsF closedP
 cases l.reverse.find? (fun r=>r.code == c) <;> rfl
theorem clsF_snoc (l:List Rol) (r:Rol):clsF (l ++ [r]) r.code=some (.bool (!r.mapped))∧∀ d,d≠r.code→clsF (l ++ [r]) d=clsF l d:=by
 unfold clsF
 rw [List.reverse_append]
 refine ⟨by simp,fun d hd=>?_⟩
 have:(r.code == d)=false:=by simpa using fun e=>hd e.symm
 simp [this]
theorem ent1_any (l:Lnk) (rs:List Rol) (bs mb mn:Nat) (w:World) (he:w.cell? ⟨bs,0,none⟩=some (.map (some mb))) (hp:VMap intK w mb mn (clsF rs)) (hok:I64 l.to) :
  Calls Tryz.prog 107 #[.agg #[.int .i64 l.frm,.int .i64 l.to,.int .i64 l.since],.pointer (some ⟨bs,0,none⟩)] w fun e w'=>e=.returned (.bool (closedP rs l.to))∧Keeps w w':=by
 have hbe:=World.block_lt_of_cell? _ _ he
 simp only at hbe
 have hlk:(Instr.lookup 140 (.map (some mb)) (.int .i64 l.to) false).run Tryz.prog (w.alloc (.cells #[.int .i64 l.frm,.int .i64 l.to,.int .i64 l.since] 162))=.ok (.bool (closedP rs l.to)) (w.alloc (.cells #[.int .i64 l.frm,.int .i64 l.to,.int .i64 l.since] 162)):=by
  have:=(hp.alloc (.cells #[.int .i64 l.frm,.int .i64 l.to,.int .i64 l.since] 162)).look Tryz.underlying140 (fun w=>Tryz.zeroValue4 w) (a:=l.to) hok _ rfl
  rw [clsF_get] at this
  exact this
 clear hp
 go_enter Tryz.func107,Tryz.ntmps107
 go_wp2_with fail
 go_ret
 exact ⟨rfl,(Keeps.refl w).alloc _⟩
def IdxPostQ {α:Type} (w:World) (q:α→Bool) (xs:List α) (e:Ending) (w':World):Prop:=Keeps w w'∧∃ r:Int,e=.returned (.int .i64 r)∧decide (0≤r)=xs.any q
theorem any_take_all {α:Type} {q:α→Bool} {xs:List α} (h:∀ j (hj:j < xs.length),q xs[j]=false):xs.any q=false:=by
 rw [List.any_eq_false]
 intro x hx
 obtain ⟨j,hj,rfl⟩:=List.getElem_of_mem hx
 rw [h j hj];simp
theorem any_at {α:Type} {q:α→Bool} {xs:List α} {k:Nat} (hk:k < xs.length) (h:q xs[k]=true):xs.any q=true:=List.any_eq_true.2 ⟨xs[k],List.getElem_mem ..,h⟩
theorem idxA_any (ao:Option Addr) (xs:List Acc) (cap b o:Nat) (w:World) (H:Accs w ao xs cap b o) :
  Calls Tryz.prog 145 #[.slice ao xs.length cap,.func (.func 100) #[] #[]] w (IdxPostQ w (fun a=>!basedB a) xs):=by
 have hcap:=Sl.cap H
 have hle:=Sl.le H
 have HH:=Lib.hid H
 clear H
 go_enter Tryz.func145,Tryz.ntmps145
 go_wp2_with fail
 go_loopw [8] (fun vi wr=>∃ k:Nat,k≤xs.length∧vi=.int .i64 k∧Hid (Keeps w wr)∧Hid (∀ j (hj:j < xs.length),j < k→(fun a=>!basedB a) xs[j]=false)) (fun vi _=>xs.length - (intOf vi).toNat)
 case atStart=>exact ⟨0,Nat.zero_le _,rfl,Lib.hid (Keeps.refl w),Lib.hid (fun j _ hj=>absurd hj (Nat.not_lt_zero j))⟩
 case round=>
  obtain ⟨k,hk,rfl,HK,HZ⟩:=hrel
  by_cases hlt:k < xs.length
  ·have hr:=HH.out.keeps HK.out
   have hix:=Sl.at hr Tryz.underlying24 Tryz.sizeOf68 k hlt
   obtain ⟨p,hpk⟩:∃ p,xs[k]=p:=⟨_,rfl⟩
   have c0:=hr.cell Acc.len k hlt 0 (.int .i64 p.code) (by rw [hpk];rfl);have c1:=hr.cell Acc.len k hlt 1 (.int .i64 p.kind) (by rw [hpk];rfl);have c2:=hr.cell Acc.len k hlt 2 (.int .i64 p.basis) (by rw [hpk];rfl);have c3:=hr.cell Acc.len k hlt 3 (.int .i64 p.parent) (by rw [hpk];rfl);simp only [Nat.add_zero,Nat.zero_add] at c0 hix
   have HB:=Lib.hid (acc1_any p wr)
   have HP:=Lib.hid hpk
   clear hr hpk
   cases hob:(!basedB p) with
   | true=>
    have HO:Hid (xs.any (fun a=>!basedB a)=true):=Lib.hid (any_at hlt (by rw [HP.out];exact hob))
    rw [hob] at HB
    clear hob
    go_wp2_with (go_at_call 100;refine HB.out.mono ?_;rintro e w1 ⟨rfl,hk1⟩)
    go_ret
    exact ⟨HK.out.trans hk1,_,rfl,by rw [HO.out];exact decide_eq_true (by omega)⟩
   | false=>
    have HZ2:Hid (∀ j (hj:j < xs.length),j < k+1→(fun a=>!basedB a) xs[j]=false):=Lib.hid (fun j hj h=>by
     by_cases e:j < k
     ·exact HZ.out j hj e
     ·obtain rfl:j=k:=by omega
      rw [HP.out];exact hob)
    rw [hob] at HB
    clear hob
    go_wp2_with (go_at_call 100;refine HB.out.mono ?_;rintro e w1 ⟨rfl,hk1⟩)
    go_roundw
    case rel=>exact ⟨k+1,by omega,by go_num,Lib.hid (HK.out.trans hk1),HZ2⟩
    case measure=>simp [intOf];omega
  ·go_wp2_with fail
   go_ret
   exact ⟨HK.out,_,rfl,by rw [any_take_all (fun j hj=>HZ.out j hj (by omega))];rfl⟩
theorem hasA_any (ao:Option Addr) (xs:List Acc) (cap b o:Nat) (w:World) (H:Accs w ao xs cap b o) :
  Calls Tryz.prog 99 #[.slice ao xs.length cap,.func (.func 100) #[] #[]] w fun e w'=>e=.returned (.bool (xs.any (fun a=>!basedB a)))∧Keeps w w':=by
 obtain ⟨q,hq⟩:∃ q,xs.any (fun a=>!basedB a)=q:=⟨_,rfl⟩
 rw [hq]
 have HI:Hid (Calls Tryz.prog 145 #[.slice ao xs.length cap,.func (.func 100) #[] #[]] w fun e w'=>Keeps w w'∧∃ r:Int,e=.returned (.int .i64 r)∧decide (0≤r)=q):=Lib.hid (by
  have:=idxA_any ao xs cap b o w H
  unfold IdxPostQ at this
  rw [hq] at this
  exact this)
 clear hq
 go_enter Tryz.func99,Tryz.ntmps99
 go_wp2_with (go_at_call 145;refine HI.out.mono ?_;rintro e w1 ⟨hk1,r,rfl,hr⟩)
 go_ret
 exact ⟨rfl,hk1⟩
theorem idxL_any (rs:List Rol) (bs mb mn:Nat) (ao:Option Addr) (xs:List Lnk) (cap b o:Nat) (w:World) (H:Lnks w ao xs cap b o) (he:w.cell? ⟨bs,0,none⟩=some (.map (some mb))) (hp:VMap intK w mb mn (clsF rs)) (hok:∀ l∈xs,l.OkL) :
  Calls Tryz.prog 148 #[.slice ao xs.length cap,.func (.func 107) #[] #[.pointer (some ⟨bs,0,none⟩)]] w (IdxPostQ w (fun l=>closedP rs l.to) xs):=by
 have hcap:=Sl.cap H
 have hle:=Sl.le H
 have HH:=Lib.hid H
 clear H
 go_enter Tryz.func148,Tryz.ntmps148
 go_wp2_with fail
 go_loopw [8] (fun vi wr=>∃ k:Nat,k≤xs.length∧vi=.int .i64 k∧Hid (Keeps w wr)∧Hid (∀ j (hj:j < xs.length),j < k→(fun l=>closedP rs l.to) xs[j]=false)) (fun vi _=>xs.length - (intOf vi).toNat)
 case atStart=>exact ⟨0,Nat.zero_le _,rfl,Lib.hid (Keeps.refl w),Lib.hid (fun j _ hj=>absurd hj (Nat.not_lt_zero j))⟩
 case round=>
  obtain ⟨k,hk,rfl,HK,HZ⟩:=hrel
  by_cases hlt:k < xs.length
  ·have hr:=HH.out.keeps HK.out
   have hix:=Sl.at hr Tryz.underlying104 Tryz.sizeOf162 k hlt
   obtain ⟨p,hpk⟩:∃ p,xs[k]=p:=⟨_,rfl⟩
   have c0:=hr.cell Lnk.len k hlt 0 (.int .i64 p.frm) (by rw [hpk];rfl);have c1:=hr.cell Lnk.len k hlt 1 (.int .i64 p.to) (by rw [hpk];rfl);have c2:=hr.cell Lnk.len k hlt 2 (.int .i64 p.since) (by rw [hpk];rfl);simp only [Nat.add_zero,Nat.zero_add] at c0 hix
   have HB:=Lib.hid (ent1_any p rs bs mb mn wr (HK.out.cell he) (hp.keeps HK.out) (by rw [← hpk];exact (hok _ (List.getElem_mem ..)).2.1))
   have HP:=Lib.hid hpk
   clear hr hpk
   cases hob:(closedP rs p.to) with
   | true=>
    have HO:Hid (xs.any (fun l=>closedP rs l.to)=true):=Lib.hid (any_at hlt (by rw [HP.out];exact hob))
    rw [hob] at HB
    clear hob
    go_wp2_with (go_at_call 107;refine HB.out.mono ?_;rintro e w1 ⟨rfl,hk1⟩)
    go_ret
    exact ⟨HK.out.trans hk1,_,rfl,by rw [HO.out];exact decide_eq_true (by omega)⟩
   | false=>
    have HZ2:Hid (∀ j (hj:j < xs.length),j < k+1→(fun l=>closedP rs l.to) xs[j]=false):=Lib.hid (fun j hj h=>by
     by_cases e:j < k
     ·exact HZ.out j hj e
     ·obtain rfl:j=k:=by omega
      rw [HP.out];exact hob)
    rw [hob] at HB
    clear hob
    go_wp2_with (go_at_call 107;refine HB.out.mono ?_;rintro e w1 ⟨rfl,hk1⟩)
    go_roundw
    case rel=>exact ⟨k+1,by omega,by go_num,Lib.hid (HK.out.trans hk1),HZ2⟩
    case measure=>simp [intOf];omega
  ·go_wp2_with fail
   go_ret
   exact ⟨HK.out,_,rfl,by rw [any_take_all (fun j hj=>HZ.out j hj (by omega))];rfl⟩
theorem hasL_any (rs:List Rol) (bs mb mn:Nat) (ao:Option Addr) (xs:List Lnk) (cap b o:Nat) (w:World) (H:Lnks w ao xs cap b o) (he:w.cell? ⟨bs,0,none⟩=some (.map (some mb))) (hp:VMap intK w mb mn (clsF rs)) (hok:∀ l∈xs,l.OkL) :
  Calls Tryz.prog 106 #[.slice ao xs.length cap,.func (.func 107) #[] #[.pointer (some ⟨bs,0,none⟩)]] w fun e w'=>e=.returned (.bool (xs.any (fun l=>closedP rs l.to)))∧Keeps w w':=by
 obtain ⟨q,hq⟩:∃ q,xs.any (fun l=>closedP rs l.to)=q:=⟨_,rfl⟩
 rw [hq]
 have HI:Hid (Calls Tryz.prog 148 #[.slice ao xs.length cap,.func (.func 107) #[] #[.pointer (some ⟨bs,0,none⟩)]] w fun e w'=>Keeps w w'∧∃ r:Int,e=.returned (.int .i64 r)∧decide (0≤r)=q):=Lib.hid (by
  have:=idxL_any rs bs mb mn ao xs cap b o w H he hp hok
  unfold IdxPostQ at this
  rw [hq] at this
  exact this)
 clear hq
 go_enter Tryz.func106,Tryz.ntmps106
 go_wp2_with (go_at_call 148;refine HI.out.mono ?_;rintro e w1 ⟨hk1,r,rfl,hr⟩)
 go_ret
 exact ⟨rfl,hk1⟩
end Go.Proofs.YtoaidbhiciaeaaaGreat

end
