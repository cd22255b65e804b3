/- Walks and plain facts that the claim rests on (CtlCtl, CtlVotesW, MetP, CtlRVotes). No condition. -/
import Derived.Test.YtoaidbhiciaeaaaGreatPo17
import Derived.Deep.MidRow
import Derived.StillTailTactics
set_option linter.unusedSimpArgs false
set_option linter.unusedVariables false
set_option maxHeartbeats 16000000
section
namespace Go.Proofs.YtoaidbhiciaeaaaGreat
open Go.RowKit
theorem elemBool:ElemOf Tryz.prog 234 4 (.bool false) 1 1:=⟨Tryz.underlying234,by kernel_rfl,rfl,by omega⟩
theorem infoBoolC:(Tryz.prog.info? 4).map (fun i=>(i.zero,i.size,i.bytes))=some (some (.bool false),1,1):=by kernel_rfl
def rowV (g:Nat→Value) (n:Nat):List Value:=(List.range n).map g
theorem rowV_len (g:Nat→Value) (n:Nat):(rowV g n).length=n:=by simp [rowV]
theorem rowV_get (g:Nat→Value) (n j:Nat) (hj:j < n):(rowV g n)[j]?=some (g j):=by simp [rowV,hj]
theorem rowV_congr {g h:Nat→Value} {n:Nat} (e:∀ i < n,g i=h i):rowV g n=rowV h n:=List.map_congr_left (fun i hi=>e i (List.mem_range.1 hi))
theorem rowV_set (g:Nat→Value) (n j:Nat) (x:Value):(rowV g n).set j x=rowV (fun i=>if i=j then x else g i) n:=by
 apply List.ext_getElem?
 intro i
 rw [List.getElem?_set]
 by_cases hi:i < n
 ·rw [rowV_get _ _ _ hi,rowV_get _ _ _ hi]
  by_cases hij:j=i
  ·subst hij;rw [if_pos rfl,if_pos (by rw [rowV_len];exact hi)];simp
  ·rw [if_neg hij];simp [Ne.symm hij]
 ·have h1:(rowV g n)[i]?=none:=by rw [List.getElem?_eq_none];rw [rowV_len];omega
  have h2:(rowV (fun i=>if i=j then x else g i) n)[i]?=none:=by rw [List.getElem?_eq_none];rw [rowV_len];omega
  rw [h1,h2]
  split
  ·rw [if_neg (by rw [rowV_len];omega)]
  ·rfl
theorem rowV_const (n:Nat) (z:Value):List.replicate n z=rowV (fun _=>z) n:=by
 apply List.ext_getElem?
 intro i
 by_cases hi:i < n
 ·rw [rowV_get _ _ _ hi];simp [hi]
 ·simp [rowV,hi]
theorem rank_any (n:Int) (l:List Hol) (day:Int) (ao:Option Addr) (cap b o:Nat) (w:World) (H:Hols w ao l cap b o) (hlen:l.length≤900) (hok:∀ x∈l,x.Ok) :
  Calls Tryz.prog 193 #[.int .i64 n,.slice ao l.length cap,.int .i64 day] w (OutL w (rankR n l day).1 (rankR n l day).2):=callsIn_wide.1 (rank_in n l day ao cap b o w H hlen hok)
def OutBl (w:World) (xs:List Bool) (er:Int) (e:Ending) (w':World):Prop:=
 ∃ ao cap b o,e=.returned (.tuple #[.slice ao xs.length cap,.int .i64 er])∧Sl w' 1 ao xs.length cap b o (xs.map .bool)∧Keeps w w'
def fnB (φ:Nat→Bool) (n:Nat):List Bool:=(List.range n).map φ
theorem fnB_len (φ:Nat→Bool) (n:Nat):(fnB φ n).length=n:=by simp [fnB]
theorem fnB_row (φ:Nat→Bool) (n:Nat):(fnB φ n).map .bool=rowV (fun e=>.bool (φ e)) n:=by simp [fnB,rowV]
theorem fnB_snoc (φ:Nat→Bool) (n:Nat):fnB φ (n+1)=fnB φ n ++ [φ n]:=by simp [fnB,List.range_succ]
def ctlR (n:Int) (l:List Hol) (day:Int):List Bool × Int:=if (matR n l day).2=0 then (fnB (inA (f0 l day) n.toNat n.toNat) n.toNat,0) else ([],(matR n l day).2)
theorem mat_cases (n:Int) (l:List Hol) (day:Int):(∃ m:Nat,n=(m:Int)∧1≤m∧m≤12∧hvalidB n l=true∧matR n l day=(matF (f0 l day) m,0)∧rankR n l day=(fnI (rkA (f0 l day) m m) m,0)∧ctlR n l day=(fnB (inA (f0 l day) m m) m,0)) ∨
  (∃ re,re≠0∧matR n l day=([],re)∧rankR n l day=([],re)∧ctlR n l day=([],re)):=by
 cases h1:hvalidB n l with
 | false=>
  right
  have h:=matR_1 (day:=day) h1
  exact ⟨1,by decide,h,by unfold rankR;rw [h];simp,by unfold ctlR;rw [h];simp⟩
 | true=>
  cases h2:dateB day with
  | false=>
   right
   have h:=matR_2 h1 h2
   exact ⟨2,by decide,h,by unfold rankR;rw [h];simp,by unfold ctlR;rw [h];simp⟩
  | true=>
   left
   obtain ⟨hn1,hn2⟩:=hvalidB_n h1
   obtain ⟨m,rfl⟩:∃ m:Nat,n=(m:Int):=⟨n.toNat,by omega⟩
   have h:=matR_3 h1 h2
   rw [Int.toNat_natCast,matH_f0] at h
   exact ⟨m,rfl,by omega,by omega,rfl,h,by unfold rankR;rw [h];simp,by unfold ctlR;rw [h];simp⟩
theorem rk_in (f:Nat→Nat→Int) (n e:Nat):decide (0≤rkA f n n e)=inA f n n e:=by
 have:=rkA_iff (f:=f) (n:=n) n e
 cases h:inA f n n e with
 | true=>exact decide_eq_true (this.2 h)
 | false=>rw [h] at this;simp at this;exact decide_eq_false (by omega)
theorem fnI_cell {w:World} {ao:Option Addr} {φ:Nat→Int} {n cap b o:Nat} (H:Sl w 1 ao n cap b o ((fnI φ n).map (.int .i64))) (k:Nat) (hk:k < n):w.cell? ⟨b,o+k,none⟩=some (.int .i64 (φ k)):=
 H.cell k _ (by simp [fnI,hk])
set_option maxRecDepth 100000 in
theorem controlled_any (n:Int) (l:List Hol) (day:Int) (ao:Option Addr) (cap b o:Nat) (w:World) (H:Hols w ao l cap b o) (hlen:l.length≤900) (hok:∀ x∈l,x.Ok) :
  Calls Tryz.prog 191 #[.int .i64 n,.slice ao l.length cap,.int .i64 day] w (OutBl w (ctlR n l day).1 (ctlR n l day).2):=by
 have hm0:=rank_any n l day ao cap b o w H hlen hok
 rcases mat_cases n l day with ⟨m,rfl,hm1,hm,hv,hq1,hq2,hq3⟩ | ⟨re,h0,hq1,hq2,hq3⟩
 ·unfold OutL at hm0
  rw [hq2] at hm0
  simp only [fnI_len] at hm0
  rw [hq3]
  have HM:=Lib.hid hm0
  obtain ⟨i0,hi,hz0,hz1,hz2⟩:=info_parts infoBoolC
  clear hm0 hv hq1 hq2 hq3 H hok
  go_enter Tryz.func191,Tryz.ntmps191
  go_wp2_with (first | (go_at_call 193;refine HM.out.mono ?_;rintro e1 w1 ⟨ao1,cap1,b1,o1,rfl,hs1,hk1⟩;have HS1:=Lib.hid hs1;have K1:=Lib.hid hk1;have hc1:=hs1.cap;have hl1:=hs1.le;clear hs1 hk1) | (at_make;refine wpList_makeZ _ rfl _ _ 234 rfl 4 i0 (.bool false) Tryz.underlying234 hi hz0 hz1 rfl _ _ _ _ m rfl rfl rfl rfl (by rw [hz2];omega) (by omega) ?_))
  have HR0:Hid (RowB (w1.alloc (Obj.cells (Array.replicate m (Value.bool false)) 4)) w1.heap.size 4 (rowV (fun _=>.bool false) m)):=Lib.hid (by
   rw [← rowV_const]
   have:=RowB.new w1 4 (List.replicate m (.bool false))
   simpa using this)
  go_loopw [27] (fun vi wy=>∃ k:Nat,k≤m∧vi=.int .i64 k∧Hid (RowB wy w1.heap.size 4 (rowV (fun e=>if e < k then .bool (inA (f0 l day) m m e) else .bool false) m))∧Hid (Keeps w1 wy)) (fun vi _=>m - (intOf vi).toNat)
  case atStart=>exact ⟨0,Nat.zero_le _,rfl,Lib.hid (by simpa using HR0.out),Lib.hid ((Keeps.refl w1).alloc _)⟩
  case round=>
   obtain ⟨k,hk,rfl,HX,HKY⟩:=hrel
   by_cases hlt:k < m
   ·have c1:=fnI_cell (HS1.out.keeps HKY.out) k hlt
    have hix:=(HS1.out.at1 Tryz.underlying69 Tryz.sizeOf3 k hlt)
    have hrk:=rk_in (f0 l day) m k
    obtain ⟨r,hr⟩:∃ r,rkA (f0 l day) m m k=r:=⟨_,rfl⟩
    rw [hr] at c1 hrk
    have HIN:=Lib.hid hrk
    have c0:=HX.out.cell k _ (rowV_get _ _ _ hlt)
    have f0':=HX.out.frozen k
    have hb0:=HX.out.lt
    clear hr hrk
    go_wp2_with fail
    go_roundw
    case rel=>exact ⟨k+1,by omega,by go_num,Lib.hid (by
     have:=HX.out.set k (.bool (decide (0≤r)))
     rw [rowV_set] at this
     rw [rowV_congr (h:=fun e=>if e=k then .bool (decide (0≤r)) else if e < k then .bool (inA (f0 l day) m m e) else .bool false)]
     ·exact this
     ·intro i _
      by_cases h1:i=k
      ·subst h1;rw [if_pos rfl,if_pos (Nat.lt_succ_self _),HIN.out]
      ·rw [if_neg h1]
       by_cases h2:i < k
       ·rw [if_pos h2,if_pos (by omega)]
       ·rw [if_neg h2,if_neg (by omega)]),Lib.hid (HKY.out.setCell (p:=⟨w1.heap.size,k,none⟩) (Nat.le_refl _) _)⟩
    case measure=>simp [intOf];omega
   ·obtain rfl:k=m:=by omega
    have HZ:Hid (RowB wr w1.heap.size 4 (rowV (fun e=>.bool (inA (f0 l day) k k e)) k)):=Lib.hid (by
     rw [rowV_congr (fun i hi=>show (Value.bool (inA (f0 l day) k k i))=if i < k then .bool (inA (f0 l day) k k i) else .bool false by rw [if_pos hi])]
     exact HX.out)
    go_wp2_with fail
    go_ret2
    refine ⟨some ⟨w1.heap.size,0,none⟩,k,w1.heap.size,0,by simp only [fnB_len];rfl,?_,K1.out.trans HKY.out⟩
    have h:=HZ.out.sl (by rw [rowV_len];omega)
    rw [rowV_len] at h
    simp only [fnB_len,fnB_row]
    exact h
 ·unfold OutL at hm0
  rw [hq2] at hm0
  rw [hq3]
  have HM:=Lib.hid hm0
  have e2:(!(re == 0))=true:=by simpa using h0
  clear hm0 hq1 hq2 hq3 H hok
  go_enter Tryz.func191,Tryz.ntmps191
  go_wp2_with (go_at_call 193;refine HM.out.mono ?_;rintro e1 w1 ⟨ao1,cap1,b1,o1,rfl,hs1,hk1⟩;have HS1:=Lib.hid hs1;have K1:=Lib.hid hk1;have hc1:=hs1.cap;have hl1:=hs1.le;clear hs1 hk1)
  go_ret2
  exact ⟨none,0,0,0,rfl,Sl.nil _ _,K1.out⟩
set_option maxRecDepth 100000 in
theorem rrank_any (n:Int) (l:List Hol) (day:Int) (ao:Option Addr) (cap b o:Nat) (w:World) (H:Hols w ao l cap b o) (hlen:l.length≤900) :
  Calls Tryz.prog 188 #[.int .i64 n,.slice ao l.length cap,.int .i64 day] w (OutL w (rankR n l day).1 (rankR n l day).2):=by
 have hm0:=rmatrix_any n ao l cap b o day w H hlen
 rcases mat_cases n l day with ⟨m,rfl,hm1,hm,hv,hq1,hq2,hq3⟩ | ⟨re,h0,hq1,hq2,hq3⟩
 ·unfold OutRows at hm0
  rw [hq1] at hm0
  simp only [matF_len] at hm0
  rw [hq2]
  have HM:=Lib.hid hm0
  have HFB:=Lib.hid (f0_bd hv day)
  clear hm0 hv hq1 hq2 hq3 H
  go_enter Tryz.func188,Tryz.ntmps188
  go_wp2_with (first | (go_at_call 190;refine (ranks_any (f0 l day) m hm1 hm HFB.out ao1 cap1 b1 o1 w1 HS1.out).mono ?_;rintro e2 w2 ⟨ao2,cap2,b2,o2,rfl,hs2,hk2⟩;have HS2:=Lib.hid hs2;have K2:=Lib.hid hk2;clear hs2 hk2) | (go_at_call 189;refine HM.out.mono ?_;rintro e1 w1 ⟨ao1,cap1,b1,o1,rfl,hs1,hk1⟩;have HS1:=Lib.hid hs1;have K1:=Lib.hid hk1;clear hs1 hk1))
  go_ret2
  refine ⟨ao2,cap2,b2,o2,by simp only [fnI_len];rfl,?_,K1.out.trans K2.out⟩
  simp only [fnI_len]
  exact HS2.out
 ·unfold OutRows at hm0
  rw [hq1] at hm0
  rw [hq2]
  have HM:=Lib.hid hm0
  have e2:(!(re == 0))=true:=by simpa using h0
  clear hm0 hq1 hq2 hq3 H
  go_enter Tryz.func188,Tryz.ntmps188
  go_wp2_with (go_at_call 189;refine HM.out.mono ?_;rintro e1 w1 ⟨ao1,cap1,b1,o1,rfl,hs1,hk1⟩;have K1:=Lib.hid hk1;clear hs1 hk1)
  go_ret2
  exact ⟨none,0,0,0,rfl,Sl.nil _ _,K1.out⟩
set_option maxRecDepth 100000 in
theorem rcontrolled_any (n:Int) (l:List Hol) (day:Int) (ao:Option Addr) (cap b o:Nat) (w:World) (H:Hols w ao l cap b o) (hlen:l.length≤900) :
  Calls Tryz.prog 183 #[.int .i64 n,.slice ao l.length cap,.int .i64 day] w (OutBl w (ctlR n l day).1 (ctlR n l day).2):=by
 have hm0:=rrank_any n l day ao cap b o w H hlen
 rcases mat_cases n l day with ⟨m,rfl,hm1,hm,hv,hq1,hq2,hq3⟩ | ⟨re,h0,hq1,hq2,hq3⟩
 ·unfold OutL at hm0
  rw [hq2] at hm0
  simp only [fnI_len] at hm0
  rw [hq3]
  have HM:=Lib.hid hm0
  clear hm0 hv hq1 hq2 hq3 H
  go_enter Tryz.func183,Tryz.ntmps183
  go_wp2_with (go_at_call 188;refine HM.out.mono ?_;rintro e1 w1 ⟨ao1,cap1,b1,o1,rfl,hs1,hk1⟩;have HS1:=Lib.hid hs1;have K1:=Lib.hid hk1;have hc1:=hs1.cap;have hl1:=hs1.le;clear hs1 hk1)
  go_loopw [10,11] (fun vo vi wy=>∃ k:Nat,k≤m∧vi=.int .i64 k∧Hid (Keeps w1 wy∧wy.ownsRow w1.heap.size 4 1 vo k ((fnB (inA (f0 l day) m m) k).map .bool))) (fun _ vi _=>m - (intOf vi).toNat)
  case atStart=>exact ⟨0,Nat.zero_le _,rfl,Lib.hid ⟨Keeps.refl _,World.ownsRow_nil _ _ _ _⟩⟩
  case round=>
   obtain ⟨k,hk,rfl,HX⟩:=hrel
   by_cases hlt:k < m
   ·have c1:=fnI_cell (HS1.out.keeps HX.out.1) k hlt
    have hix:=(HS1.out.at1 Tryz.underlying69 Tryz.sizeOf3 k hlt)
    have hrk:=rk_in (f0 l day) m k
    obtain ⟨r,hr⟩:∃ r,rkA (f0 l day) m m k=r:=⟨_,rfl⟩
    rw [hr] at c1 hrk
    have HIN:=Lib.hid hrk
    clear hr hrk
    go_wp2_with (at_builtin;refine wpList_appx elemBool rfl _ _ rfl w1 _ _ _ rfl w1.heap.size HX.out.2 HX.out.1 HX.out.1.size [.bool (decide (0≤r))] _ 1 rfl rfl rfl (by intro u hu;simp at hu;subst hu;rfl) (by omega) (by omega) ?_;intro v5 w5 hown5 hb5 hsz5;have HV5:Hid (Keeps w1 w5∧w5.ownsRow w1.heap.size 4 1 v5 (k+1) ((fnB (inA (f0 l day) m m) (k+1)).map .bool)):=Lib.hid ⟨hb5,by rw [fnB_snoc,List.map_append,← HIN.out];exact hown5⟩;clear hown5 hb5 hsz5)
    go_roundw
    case rel=>exact ⟨k+1,by omega,by go_num,HV5⟩
    case measure=>simp [intOf];omega
   ·obtain rfl:k=m:=by omega
    obtain ⟨hky,howny⟩:=HX.out
    obtain ⟨ao7,cap7,b7,rfl,hs7⟩:=Sl.own howny
    have HS7:=Lib.hid hs7
    have HK:=Lib.hid hky
    clear hky howny hs7 HX
    go_wp2_with fail
    go_ret2
    refine ⟨ao7,cap7,b7,0,by simp only [fnB_len];rfl,?_,K1.out.trans HK.out⟩
    simp only [fnB_len]
    exact HS7.out
 ·unfold OutL at hm0
  rw [hq2] at hm0
  rw [hq3]
  have HM:=Lib.hid hm0
  have e2:(!(re == 0))=true:=by simpa using h0
  clear hm0 hq1 hq2 hq3 H
  go_enter Tryz.func183,Tryz.ntmps183
  go_wp2_with (go_at_call 188;refine HM.out.mono ?_;rintro e1 w1 ⟨ao1,cap1,b1,o1,rfl,hs1,hk1⟩;have HS1:=Lib.hid hs1;have K1:=Lib.hid hk1;have hc1:=hs1.cap;have hl1:=hs1.le;clear hs1 hk1)
  go_ret2
  exact ⟨none,0,0,0,rfl,Sl.nil _ _,K1.out⟩
end Go.Proofs.YtoaidbhiciaeaaaGreat

end
section
namespace Go.Proofs.YtoaidbhiciaeaaaGreat
open Go.RowKit Go.Shelf
attribute [local go_sem] Oper.semAt_some
def orS (xs:List (Nat × Nat)):Nat:=xs.foldl (fun a x=>(a ||| x.2) % 65536) 0
theorem orS_snoc (xs:List (Nat × Nat)) (x:Nat × Nat):orS (xs ++ [x])=(orS xs ||| x.2) % 65536:=by simp [orS,List.foldl_append]
theorem orS_steps (f:Nat→Nat→Int) (n:Nat) (hn:n≤12):∀ k,orS (stepsL f n (k+1))=encB (inA f n k) n:=by
 intro k
 induction k with
 | zero=>
  rw [stepsL_snoc,orS_snoc]
  have h1:=encB_lt12 (inA f n 0) hn
  have e:orS (stepsL f n 0)=0:=rfl
  rw [e,Nat.zero_or]
  exact Nat.mod_eq_of_lt (by show encB (inA f n 0) n < _;omega)
 | succ k ih=>
  rw [stepsL_snoc,orS_snoc,ih,encB_or,encB_next]
  have h1:=encB_lt12 (inA f n (k+1)) hn
  exact Nat.mod_eq_of_lt (by omega)
theorem or16_any (a b:Nat):bits .or .u16 (a:Int) (b:Int)=(((a ||| b) % 65536:Nat):Int):=by
 have h1:(BitVec.ofInt 16 (a:Int)).toNat=a % 2 ^ 16:=by rw [BitVec.ofInt_natCast,BitVec.toNat_ofNat]
 have h2:(BitVec.ofInt 16 (b:Int)).toNat=b % 2 ^ 16:=by rw [BitVec.ofInt_natCast,BitVec.toNat_ofNat]
 show IntKind.u16.wrap ((BitVec.ofInt 16 (a:Int) ||| BitVec.ofInt 16 (b:Int)).toNat:Int)=_
 rw [BitVec.toNat_or,h1,h2,← Nat.or_mod_two_pow,IntKind.wrap_u16]
 omega
theorem upv_step {V:Nat→Int} {k:Nat} {v:Int} (h:V k=v) (i:Nat):updI (fun e=>if e < k then V e else 0) k v i=if i < k+1 then V i else 0:=by
 simp only [updI]
 by_cases h1:i=k
 ·subst h1;rw [if_pos rfl,if_pos (Nat.lt_succ_self _),h]
 ·rw [if_neg h1]
  by_cases h2:i < k
  ·rw [if_pos h2,if_pos (by omega)]
  ·rw [if_neg h2,if_neg (by omega)]
def votesR (n:Int) (l:List Hol) (day:Int):List Int × Int:=if (matR n l day).2=0 then (fnI (fun e=>voteK (f0 l day) (inA (f0 l day) n.toNat n.toNat) e n.toNat) n.toNat,0) else ([],(matR n l day).2)
set_option maxRecDepth 100000 in
theorem votes_in (n:Int) (l:List Hol) (day:Int) (ao:Option Addr) (cap b o:Nat) (w:World) (H:Hols w ao l cap b o) (hlen:l.length≤900) (hok:∀ x∈l,x.Ok) :
  CallsIn Fence.wide 5 Tryz.prog 192 #[.int .i64 n,.slice ao l.length cap,.int .i64 day] w fun e w'=>∃ ao cap b o,e=.returned (.tuple #[.slice ao (votesR n l day).1.length cap,.int .i64 (votesR n l day).2])∧Sl w' 1 ao (votesR n l day).1.length cap b o ((votesR n l day).1.map (.int .i64))∧Keeps w w':=by
 have HM0:=matrix_any n ao l cap b o day w H hlen hok
 by_cases hv:hvalidB n l=true∧dateB day=true
 ·obtain ⟨hv,hd⟩:=hv
  obtain ⟨hn1,hn2⟩:=hvalidB_n hv
  obtain ⟨m,rfl⟩:∃ m:Nat,n=(m:Int):=⟨n.toNat,by omega⟩
  have hm1:1≤m:=by omega
  have hm:m≤12:=by omega
  have hq:votesR (m:Int) l day=(fnI (fun e=>voteK (f0 l day) (inA (f0 l day) m m) e m) m,0):=by unfold votesR;rw [matR_3 hv hd];simp
  have hfb:=f0_bd hv day
  unfold OutRows at HM0
  rw [matR_3 hv hd,Int.toNat_natCast] at HM0
  simp only [matH_len] at HM0
  rw [hq]
  simp only [fnI_len]
  have HM:=Lib.hid HM0
  have HFB:=Lib.hid hfb
  obtain ⟨i0,hi,hz0,hz1,hz2⟩:=info_parts infoIntC
  have hg1:Fence.wide.fn 194:=trivial
  have hg2:Fence.wide.fn 195:=trivial
  have hg3:Fence.wide.fn 196:=trivial
  clear HM0 hv hd hn1 hn2 hq hfb H hok
  refine callsIn_of_wp_marks Tryz.func192 rfl trivial ?_ rfl
  simp only [Tryz.ntmps192,List.size_toArray,List.length_cons,List.length_nil,Nat.reduceAdd,Nat.reduceSub,Array.replicate_succ,Array.replicate_zero,List.push_toArray,List.append_toArray,List.nil_append,List.cons_append]
  gi_wp2_with (first | (gi_at_call 194;refine (callsIn_wide.2 HM.out).mono ?_;rintro e1 w1 ⟨ao1,cap1,b1,o1,rfl,hs1,hk1⟩;have HS1:=Lib.hid hs1;have K1:=Lib.hid hk1;clear hs1 hk1) | (gi_at_call 195;refine (steps_in Fence.wide _ trivial rfl _ _ _ _).mono ?_;rintro en w' ⟨rfl,rfl⟩))
  have hbox0:=(Boxed.new w1 243 (.int .u16 0)).alloc (.cells #[.slice ao1 m cap1] 239)
  have hbel0:Below w1.heap.size w1 ((w1.alloc (Obj.cells #[Value.int IntKind.u16 0] 243)).alloc (Obj.cells #[Value.slice ao1 m cap1] 239)):=((Below.refl _ w1).alloc (Nat.le_refl _) _).alloc (by simp) _
  refine wpIn_rangeFunc_ownH rfl (by omega) (gf:=198) (lb:=#[.pointer (some ⟨w1.heap.size+1,0,none⟩)]) rfl trivial (enters_of Tryz.func198 (by kernel_rfl) rfl)
   (steps_stops 4 (by omega) (w1.heap.size+1) w1.heap.size (w1.heap.size+1) ao1 (f0 l day) m cap1 b1 o1 hm1 hm HFB.out w1 HS1.out ((w1.alloc (Obj.cells #[Value.int IntKind.u16 0] 243)).alloc (Obj.cells #[Value.slice ao1 m cap1] 239)) (by simp) (by omega) (Nat.le_refl _) (by simp;omega) hbel0 (by go_simp))
   (fun h k=>h.trans k) (fun W l o o' hl _ _ _=>KeepBut.putObj W l o' hl) (Below.refl _ _) (fun _=>rfl)
   (fun pre W=>Boxed W w1.heap.size 243 (.int .u16 (orS pre:Nat))∧(Below w1.heap.size w1 W∧((w1.alloc (Obj.cells #[Value.int IntKind.u16 0] 243)).alloc (Obj.cells #[Value.slice ao1 m cap1] 239)).heap.size≤W.heap.size))
   (fun _ _ _=>False)
   (OwnFrom.and (Own.from (boxed_own _ _ (fun pre=>Value.int .u16 (orS pre:Nat))) _) (OwnFrom.and (ownFrom_below (Nat.le_refl _) (by simp;omega)) (fun s X Y row hs hg hr=>Nat.le_trans hs hg.size)))
   (fun _ _ _ _ _ hs _ _=>hs)
   ⟨hbox0,⟨hbel0,Nat.le_refl _⟩⟩
   (fun x a' W=>a'={ tmps:=#[.int .i64 (m:Int),.slice ao l.length cap,.int .i64 day,undef,undef,undef,.slice none 0 0,.int .i64 0,.slice ao1 m cap1,.int .i64 0,.pointer (some ⟨w1.heap.size,0,none⟩),undef,.int .u16 (x.2:Nat),undef,undef,.tuple #[.slice ao1 m cap1,.int .i64 0],.int .i64 (m:Int),.slice ao l.length cap,.int .i64 day,.tuple #[.slice ao1 m cap1,.int .i64 0],.slice ao1 m cap1,.int .i64 0,.int .i64 0,.bool false,undef,.slice ao1 m cap1,.func (.func 198) #[] #[.pointer (some ⟨w1.heap.size+1,0,none⟩)],.int .i64 (x.1:Nat),.int .u16 (x.2:Nat),undef,undef,undef,undef,undef,undef,undef,undef,undef,undef,undef,undef,undef,undef,undef,undef,undef,undef,undef],defers:=[] })
   (fun x a' _ X Y row hs hg hr=>hs)
   ?assign ?body ?done ?stop
  case assign=>
   rintro lb pre x W K hI hK
   gi_wp2
   exact hK _ _ (KeepsFrom.refl _ _) (KeepBut.refl _ _ _ _) hI rfl
  case body=>
   rintro lb pre x a' W hlb ⟨r,hr⟩ ⟨hbox,⟨hbel,hsz⟩⟩ rfl hlt
   have c10:=hbox.cell
   have f10:=hbox.frozen
   have hor:=or16_any (orS pre) x.2
   have HI:=Lib.hid (And.intro hbox (And.intro hbel hsz))
   clear hr hbox hbel hsz
   gi_wp2
   exact ⟨(KeepsOthers.setCell _ _ _).from _,(KeepBut.refl _ _ _ _).setCell (p:=⟨w1.heap.size,0,none⟩) (Nat.le_refl _) (by show w1.heap.size < _;omega) _,by rw [orS_snoc];exact HI.out.1.set _,HI.out.2.1.setCell (Nat.le_refl _) _,by simpa [World.setCell] using HI.out.2.2⟩
  case done=>
   rintro D xs W hD ⟨q,rfl,hq1,hq2,hq3⟩ ⟨hbox,⟨hbel,hsz⟩⟩ hK
   obtain ⟨p,rfl⟩:∃ p,q=p+1:=⟨q - 1,by omega⟩
   have hen:=ends hm1 hq2 hq1 hq3
   have c10:=hbox.cell
   have b10:=hbox.lt
   rw [orS_steps _ _ hm,← Nat.add_sub_cancel (n:=p) (m:=1),← hen.2] at c10
   have HB:=Lib.hid hbel
   have HK:=Lib.hid hK
   have HRD:=Lib.hid (HS1.out.keeps (show Keeps w1 W from hbel))
   have hDW:=(Array.getElem?_eq_some_iff.1 hK).1
   have hbs:=hbel.size
   clear hen hq2 hq3 hbel hbox hK hsz
   gi_wp2_with (gi_at_make;refine wpListIn_makeZ _ rfl _ _ 69 rfl 3 i0 (.int .i64 0) Tryz.underlying69 hi hz0 hz1 rfl _ _ _ _ m rfl rfl rfl rfl (by rw [hz2];omega) (by omega) ?_)
   have HR0:Hid (RowB (W.alloc (Obj.cells (Array.replicate m (Value.int IntKind.i64 0)) 3)) W.heap.size 3 (rowI (fun _=>0) m)):=Lib.hid (by
    rw [← rowI_zero]
    have:=RowB.new W 3 (List.replicate m (.int .i64 0))
    simpa using this)
   gi_loopw [36] (fun vi wy=>∃ k:Nat,k≤m∧vi=.int .i64 k∧Hid (RowB wy W.heap.size 3 (rowI (fun e=>if e < k then voteK (f0 l day) (inA (f0 l day) m m) e m else 0) m))∧Hid (Keeps W wy)) (fun vi _=>m - (intOf vi).toNat)
   case atStart=>exact ⟨0,Nat.zero_le _,rfl,Lib.hid (by simpa using HR0.out),Lib.hid ((Keeps.refl W).alloc _)⟩
   case round=>
    obtain ⟨k,hk,rfl,HX,HKY⟩:=hrel
    by_cases hlt:k < m
    ·obtain ⟨v,hv⟩:∃ v,voteK (f0 l day) (inA (f0 l day) m m) k m=v:=⟨_,rfl⟩
     have hV:CallsIn Fence.wide 4 Tryz.prog 196 #[.slice ao1 m cap1,.int .u16 (encB (inA (f0 l day) m m) m:Nat),.int .i64 (k:Int)] wr fun en w'=>en=.returned (.int .i64 v)∧w'=wr:=by
      rw [← hv]
      exact callsIn_wide.2 (votes_any (f0 l day) m hm HFB.out (inA (f0 l day) m m) k hlt ao1 cap1 b1 o1 wr (HRD.out.keeps HKY.out))
     have HVJ:=Lib.hid hV
     have HVV:=Lib.hid hv
     have c12:=HKY.out.cell c10
     have b12:=World.block_lt_of_cell? _ _ c12
     have c0:=HX.out.cell k _ (rowI_get _ _ _ hlt)
     have f0':=HX.out.frozen k
     have hb0:=HX.out.lt
     clear hV hv
     gi_wp2_with (gi_at_call 196;refine HVJ.out.mono ?_;rintro en w4 ⟨rfl,rfl⟩)
     go_roundw
     case rel=>exact ⟨k+1,by omega,by go_num,Lib.hid (by
      have:=HX.out.set k (.int .i64 v)
      rw [rowI_set,rowI_congr (fun i _=>upv_step (V:=fun e=>voteK (f0 l day) (inA (f0 l day) m m) e m) HVV.out i)] at this
      exact this),Lib.hid (HKY.out.setCell (p:=⟨W.heap.size,k,none⟩) (Nat.le_refl _) _)⟩
     case measure=>simp [intOf];omega
    ·obtain rfl:k=m:=by omega
     have HZ:Hid (RowB wr W.heap.size 3 (rowI (fun e=>voteK (f0 l day) (inA (f0 l day) k k) e k) k)):=Lib.hid (by
      rw [rowI_congr (fun i hi=>show voteK (f0 l day) (inA (f0 l day) k k) i k=if i < k then voteK (f0 l day) (inA (f0 l day) k k) i k else 0 by rw [if_pos hi])]
      exact HX.out)
     have HKD:=Lib.hid ((HKY.out.block D hDW).trans HK.out)
     gi_wp2
     refine ⟨by simp,.inl ⟨_,_,rfl,run_takeDeferred HKD.out,?_⟩⟩
     have hD':w1.heap.size+1+1≤D:=by simpa using hD
     exact ⟨_,results_tmp2 rfl _ _ _,_,_,_,_,rfl,(HZ.out.putObj D _ (by omega)).slI (by omega),K1.out.trans (show Keeps w1 _ from (Below.trans HB.out (HKY.out.mono hbs)).trans (belowK_b (w:=w1) (Nat.le_refl _) wr D _ _ (by omega) HKD.out rfl rfl))⟩
  case stop=>
   rintro D c pre W _ _ h _
   exact h.elim
 ·obtain ⟨re,hr,h0⟩:∃ re,matR n l day=([],re)∧re≠0:=by
   cases h1:hvalidB n l with
   | false=>exact ⟨1,matR_1 h1,by decide⟩
   | true=>
    cases h2:dateB day with
    | false=>exact ⟨2,matR_2 h1 h2,by decide⟩
    | true=>exact absurd ⟨h1,h2⟩ hv
  have hq:votesR n l day=([],re):=by unfold votesR;rw [hr,if_neg h0]
  unfold OutRows at HM0
  rw [hr] at HM0
  rw [hq]
  have HM:=Lib.hid HM0
  have e2:(re != 0)=true:=by simpa using h0
  have hg1:Fence.wide.fn 194:=trivial
  clear HM0 hv hr hq H hok
  refine callsIn_of_wp_marks Tryz.func192 rfl trivial ?_ rfl
  simp only [Tryz.ntmps192,List.size_toArray,List.length_cons,List.length_nil,Nat.reduceAdd,Nat.reduceSub,Array.replicate_succ,Array.replicate_zero,List.push_toArray,List.append_toArray,List.nil_append,List.cons_append]
  gi_wp2_with (gi_at_call 194;refine (callsIn_wide.2 HM.out).mono ?_;rintro e1 w1 ⟨ao1,cap1,b1,o1,rfl,hs1,hk1⟩;have HS1:=Lib.hid hs1;have K1:=Lib.hid hk1;clear hs1 hk1)
  exact ⟨_,results_tmp2 rfl _ _ _,none,0,0,0,rfl,Sl.nil _ _,K1.out⟩
end Go.Proofs.YtoaidbhiciaeaaaGreat

end
section
namespace Go.Proofs.YtoaidbhiciaeaaaGreat
open Go.RowKit
def mthE (f:Nat→Nat→Int) (js:List Bool) (e:Nat):Int:=
 if inA f js.length js.length e=true then 3 else if voteK f (inA f js.length js.length) e js.length < 2000 then 0 else if js.getD e false=true then 2 else 1
theorem mthE_full {f:Nat→Nat→Int} {js:List Bool} {e:Nat} (h:inA f js.length js.length e=true):mthE f js e=3:=by unfold mthE;rw [if_pos h]
theorem mthE_none {f:Nat→Nat→Int} {js:List Bool} {e:Nat} (h:inA f js.length js.length e=false) (h2:voteK f (inA f js.length js.length) e js.length < 2000):mthE f js e=0:=by unfold mthE;rw [if_neg (by simp [h]),if_pos h2]
theorem mthE_joint {f:Nat→Nat→Int} {js:List Bool} {e:Nat} (h:inA f js.length js.length e=false) (h2:¬ voteK f (inA f js.length js.length) e js.length < 2000) (h3:js.getD e false=true):mthE f js e=2:=by unfold mthE;rw [if_neg (by simp [h]),if_neg h2,if_pos h3]
theorem mthE_equity {f:Nat→Nat→Int} {js:List Bool} {e:Nat} (h:inA f js.length js.length e=false) (h2:¬ voteK f (inA f js.length js.length) e js.length < 2000) (h3:js.getD e false=false):mthE f js e=1:=by unfold mthE;rw [if_neg (by simp [h]),if_neg h2,if_neg (by rw [h3];exact Bool.false_ne_true)]
def methR (js:List Bool) (l:List Hol) (day:Int):List Int × Int:=if (matR (js.length:Int) l day).2=0 then (fnI (mthE (f0 l day) js) js.length,0) else ([],(matR (js.length:Int) l day).2)
def matR' (js:List Bool) (l:List Hol) (entity day:Int):Int × Int:=if (methR js l day).2=0 then (if 0≤entity∧entity < (js.length:Int) then (mthE (f0 l day) js entity.toNat,0) else (0,2)) else (0,(methR js l day).2)
theorem meth_cases (js:List Bool) (l:List Hol) (day:Int):(1≤js.length∧js.length≤12∧hvalidB (js.length:Int) l=true∧dateB day=true∧ctlR (js.length:Int) l day=(fnB (inA (f0 l day) js.length js.length) js.length,0)∧votesR (js.length:Int) l day=(fnI (fun e=>voteK (f0 l day) (inA (f0 l day) js.length js.length) e js.length) js.length,0)∧methR js l day=(fnI (mthE (f0 l day) js) js.length,0)) ∨
  (∃ re,re≠0∧ctlR (js.length:Int) l day=([],re)∧votesR (js.length:Int) l day=([],re)∧methR js l day=([],re)):=by
 cases h1:hvalidB (js.length:Int) l with
 | false=>
  right
  have h:=matR_1 (day:=day) h1
  exact ⟨1,by decide,by unfold ctlR;rw [h];simp,by unfold votesR;rw [h];simp,by unfold methR;rw [h];simp⟩
 | true=>
  cases h2:dateB day with
  | false=>
   right
   have h:=matR_2 h1 h2
   exact ⟨2,by decide,by unfold ctlR;rw [h];simp,by unfold votesR;rw [h];simp,by unfold methR;rw [h];simp⟩
  | true=>
   left
   obtain ⟨hn1,hn2⟩:=hvalidB_n h1
   have h:=matR_3 h1 h2
   rw [Int.toNat_natCast,matH_f0] at h
   exact ⟨by omega,by omega,rfl,rfl,by unfold ctlR;rw [h];simp,by unfold votesR;rw [h];simp,by unfold methR;rw [h];simp⟩
theorem fnB_cell {w:World} {ao:Option Addr} {φ:Nat→Bool} {n cap b o:Nat} (H:Sl w 1 ao n cap b o ((fnB φ n).map .bool)) (k:Nat) (hk:k < n):w.cell? ⟨b,o+k,none⟩=some (.bool (φ k)):=
 H.cell k _ (by simp [fnB,hk])
theorem RowB.range {W:World} {B:Nat} {t:TypeId} {vs:List Value} (h:RowB W B t vs):W.rangeAt B 0 vs:=fun j v hv=>by rw [Nat.zero_add];exact h.cell j v hv
theorem groupSize:(Tryz.prog.info? 29).map (·.size)=some 21:=by kernel_rfl
structure Gc where
 c0:Value
 c1:Value
 c2:Value
 c3:Value
 c4:Value
 c5:Value
 c6:Value
 c7:Value
 c8:Value
 c9:Value
 c10:Value
 c11:Value
 c12:Value
 c13:Value
 c14:Value
 c15:Value
 c16:Value
 c17:Value
 c18:Value
 c19:Value
def grpC (G:Gc) (v:Value):List Value:=[G.c0,G.c1,G.c2,G.c3,G.c4,G.c5,G.c6,G.c7,G.c8,G.c9,G.c10,G.c11,G.c12,G.c13,G.c14,G.c15,G.c16,G.c17,G.c18,G.c19,v]
end Go.Proofs.YtoaidbhiciaeaaaGreat

end
section
namespace Go.Proofs.YtoaidbhiciaeaaaGreat
open Go.RowKit
theorem vote_rk (f:Nat→Nat→Int) (n h e:Nat):voteK f (inA f n n) e (h+1)=voteK f (inA f n n) e h+(if 0≤rkA f n n h then f h e else 0):=by
 simp only [voteK]
 have:=rk_in f n h
 by_cases h0:0≤rkA f n n h
 ·rw [if_pos h0,← this,decide_eq_true h0];rfl
 ·rw [if_neg h0,← this,decide_eq_false h0];rfl
theorem RkW.drew {w W:World} {n:Nat} {φ:Nat→Int} (h:RkW w W n φ):RkW w W.drew n φ:=⟨h.1,h.2.drew⟩
def vtW (f:Nat→Nat→Int) (n h e:Nat):Nat→Int:=fun i=>if i < e then voteK f (inA f n n) i (h+1) else voteK f (inA f n n) i h
set_option maxRecDepth 100000 in
theorem rvotes_any (n:Int) (l:List Hol) (day:Int) (ao:Option Addr) (cap b o:Nat) (w:World) (H:Hols w ao l cap b o) (hlen:l.length≤900) :
  Calls Tryz.prog 184 #[.int .i64 n,.slice ao l.length cap,.int .i64 day] w (OutL w (votesR n l day).1 (votesR n l day).2):=by
 have hm0:=rmatrix_any n ao l cap b o day w H hlen
 rcases mat_cases n l day with ⟨m,rfl,hm1,hm,hv,hq1,hq2,hq3⟩ | ⟨re,h0,hq1,hq2,hq3⟩
 ·have hq4:votesR (m:Int) l day=(fnI (fun e=>voteK (f0 l day) (inA (f0 l day) m m) e m) m,0):=by unfold votesR;rw [hq1];simp
  unfold OutRows at hm0
  rw [hq1] at hm0
  simp only [matF_len] at hm0
  rw [hq4]
  have HM:=Lib.hid hm0
  have HFB:=Lib.hid (f0_bd hv day)
  obtain ⟨i0,hi,hz0,hz1,hz2⟩:=info_parts infoIntC
  clear hm0 hv hq1 hq2 hq3 hq4 H
  go_enter Tryz.func184,Tryz.ntmps184
  go_wp2_with (first | (go_at_call 190;refine (ranks_any (f0 l day) m hm1 hm HFB.out ao1 cap1 b1 o1 w1 HS1.out).mono ?_;rintro e2 w2 ⟨ao2,cap2,b2,o2,rfl,hs2,hk2⟩;have HS2:=Lib.hid hs2;have K2:=Lib.hid hk2;have HS12:=Lib.hid (HS1.out.keeps hk2);have hc2:=hs2.cap;have hl2:=hs2.le;clear hs2 hk2) | (go_at_call 189;refine HM.out.mono ?_;rintro e1 w1 ⟨ao1,cap1,b1,o1,rfl,hs1,hk1⟩;have HS1:=Lib.hid hs1;have K1:=Lib.hid hk1;have hc1:=hs1.cap;have hl1:=hs1.le;rw [matF_len] at hl1;clear hs1 hk1) | (at_make;refine wpList_makeZ _ rfl _ _ 69 rfl 3 i0 (.int .i64 0) Tryz.underlying69 hi hz0 hz1 rfl _ _ _ _ m rfl rfl rfl rfl (by rw [hz2];omega) (by omega) ?_))
  have HR0:Hid (RkW w2 (w2.alloc (Obj.cells (Array.replicate m (Value.int IntKind.i64 0)) 3)) m (fun _=>0)):=Lib.hid ⟨by
   rw [← rowI_zero]
   have:=RowB.new w2 3 (List.replicate m (.int .i64 0))
   simpa using this,(Keeps.refl w2).alloc _⟩
  go_loopw [12] (fun vi wy=>∃ h:Nat,h≤m∧vi=.int .i64 h∧Hid (RkW w2 wy m (fun e=>voteK (f0 l day) (inA (f0 l day) m m) e h))) (fun vi _=>m - (intOf vi).toNat)
  case atStart=>exact ⟨0,Nat.zero_le _,rfl,HR0⟩
  case round=>
   obtain ⟨h,hh,rfl,HX⟩:=hrel
   by_cases hlt:h < m
   ·go_wp2_with fail
    go_loopw [13] (fun vi wy=>∃ e:Nat,e≤m∧vi=.int .i64 e∧Hid (RkW w2 wy m (vtW (f0 l day) m h e))) (fun vi _=>m - (intOf vi).toNat)
    case atStart=>exact ⟨0,Nat.zero_le _,rfl,Lib.hid (HX.out.congr fun i _=>by unfold vtW;rw [if_neg (Nat.not_lt_zero _)])⟩
    case round=>
     obtain ⟨e,he,rfl,HE⟩:=hrel
     by_cases hle2:e < m
     ·obtain ⟨ao3,cap3,b3,o3,m0,h2,h3,h4,h5⟩:=matF_at (HS12.out.keeps HE.out.2) h hlt
      have hix:=matF_ix HS12.out h hlt
      have hiy:=h5 e hle2
      have m1:=h4 e hle2
      have r1:=fnI_cell (HS2.out.keeps HE.out.2) h hlt
      have hir:=HS2.out.at1 Tryz.underlying69 Tryz.sizeOf3 h hlt
      have c0:=HE.out.1.cell e _ (rowI_get _ _ _ hle2)
      have f0':=HE.out.1.frozen e
      have hb0:=HE.out.1.lt
      have hvt:=vote_rk (f0 l day) m h e
      have hv0:vtW (f0 l day) m h e e=voteK (f0 l day) (inA (f0 l day) m m) e h:=by unfold vtW;rw [if_neg (Nat.lt_irrefl _)]
      rw [hv0] at c0
      have hb1:=voteK_bd HFB.out (inA (f0 l day) m m) e h
      have hb2:=HFB.out h e
      obtain ⟨r,hr⟩:∃ r,rkA (f0 l day) m m h=r:=⟨_,rfl⟩
      obtain ⟨t,ht⟩:∃ t,voteK (f0 l day) (inA (f0 l day) m m) e h=t:=⟨_,rfl⟩
      obtain ⟨x,hx⟩:∃ x,f0 l day h e=x:=⟨_,rfl⟩
      rw [hr,ht,hx] at hvt
      rw [hr] at r1
      rw [ht] at c0 hb1
      rw [hx] at m1 hb2
      obtain ⟨hb3,hb4⟩:=hb1
      obtain ⟨hb5,hb6⟩:=hb2
      have hb7:t≤120000:=by omega
      clear h4 h5 hr hv0 hb4
      by_cases hr0:0≤r
      ·have rr:decide (0≤r)=true:=decide_eq_true hr0
       rw [if_pos hr0] at hvt
       have HN:Hid (∀ i,updI (vtW (f0 l day) m h e) e (t+x) i=vtW (f0 l day) m h (e+1) i):=Lib.hid (fun i=>ups_yes (A:=fun i=>voteK (f0 l day) (inA (f0 l day) m m) i (h+1)) (F:=fun i=>voteK (f0 l day) (inA (f0 l day) m m) i h) hvt i)
       clear hvt ht hx
       go_wp2_with fail
       go_still_tail 15,(by kernel_rfl)
       change wpList _ _ _ _ _ wr.drew
       go_wp2_with fail
       go_roundw
       case rel=>exact ⟨e+1,by omega,by go_num,Lib.hid (RkW.drew (RkW.congr (HE.out.set e (t+x)) fun i _=>HN.out i))⟩
       case measure=>simp [intOf];omega
      ·have rr:decide (0≤r)=false:=decide_eq_false hr0
       rw [if_neg hr0] at hvt
       have HN:Hid (∀ i,vtW (f0 l day) m h e i=vtW (f0 l day) m h (e+1) i):=Lib.hid (fun i=>ups_no (A:=fun i=>voteK (f0 l day) (inA (f0 l day) m m) i (h+1)) (F:=fun i=>voteK (f0 l day) (inA (f0 l day) m m) i h) (j:=e) (by rw [hvt,ht];omega) i)
       clear hvt ht hx
       go_wp2_with fail
       go_roundw
       case rel=>exact ⟨e+1,by omega,by go_num,Lib.hid (HE.out.congr fun i _=>HN.out i)⟩
       case measure=>simp [intOf];omega
     ·obtain rfl:e=m:=by omega
      have HZ:Hid (RkW w2 wr e (fun i=>voteK (f0 l day) (inA (f0 l day) e e) i (h+1))):=Lib.hid (HE.out.congr fun i hi=>by unfold vtW;rw [if_pos hi])
      go_wp2_with fail
      go_roundw
      case rel=>exact ⟨h+1,by omega,by go_num,HZ⟩
      case measure=>simp [intOf];omega
   ·obtain rfl:h=m:=by omega
    go_wp2_with fail
    go_ret2
    refine ⟨some ⟨w2.heap.size,0,none⟩,h,w2.heap.size,0,by simp only [fnI_len];rfl,?_,K1.out.trans (K2.out.trans HX.out.2)⟩
    simp only [fnI_len]
    exact HX.out.1.slI (by omega)
 ·have hq4:votesR n l day=([],re):=by unfold votesR;rw [hq1,if_neg h0]
  unfold OutRows at hm0
  rw [hq1] at hm0
  rw [hq4]
  have HM:=Lib.hid hm0
  have e2:(!(re == 0))=true:=by simpa using h0
  clear hm0 hq1 hq2 hq3 hq4 H
  go_enter Tryz.func184,Tryz.ntmps184
  go_wp2_with (go_at_call 189;refine HM.out.mono ?_;rintro e1 w1 ⟨ao1,cap1,b1,o1,rfl,hs1,hk1⟩;have K1:=Lib.hid hk1;clear hs1 hk1)
  go_ret2
  exact ⟨none,0,0,0,rfl,Sl.nil _ _,K1.out⟩
end Go.Proofs.YtoaidbhiciaeaaaGreat

end
