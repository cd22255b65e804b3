/- Walks and plain facts that the claim rests on (RDateO, CalW). No condition. -/
import Derived.Test.YtoaidbhiciaeaaaGreatPo03
set_option linter.unusedSimpArgs false
set_option linter.unusedVariables false
set_option maxHeartbeats 16000000
section
namespace Go.Proofs.YtoaidbhiciaeaaaGreat
open Go.RowKit
theorem beg_stepT {y:Int} (h1:1899≤y) (h2:y≤2199) (h:leapF y=true):begF (y+1)=begF y+366:=by
 rw [beg_step h1 h2,if_pos h];omega
theorem beg_stepF {y:Int} (h1:1899≤y) (h2:y≤2199) (h:leapF y=false):begF (y+1)=begF y+365:=by
 rw [beg_step h1 h2,if_neg (by rw [h];simp)];omega
set_option maxRecDepth 100000 in
theorem ofR_any (y m:Int) (w:World):Calls Tryz.prog 140 #[.int .i64 y,.int .i64 m,.int .i64 1] w fun e w'=>e=.returned (.tuple #[.int .i64 (ofF y m 1).1,.int .i64 (ofF y m 1).2])∧Keeps w w':=by
 by_cases hv:1900≤y∧y≤2199∧1≤m∧m≤12
 ·obtain ⟨h1,h2,h3,h4⟩:=hv
  have HO:=Lib.hid (ofF_one h1 h2 h3 h4)
  obtain ⟨j,rfl⟩:∃ j:Nat,m=(j:Int)+1:=⟨(m - 1).toNat,by omega⟩
  have hj:j < 12:=by omega
  rw [show ((j:Int)+1 - 1).toNat=j from by omega] at HO
  have hM:=month_ok h1 h2 hj
  obtain ⟨D,hD⟩:∃ D,dmF y ((j:Int)+1)=D:=⟨_,rfl⟩
  have hD28:28≤D:=by rw [← hD];exact hM.d28
  have e1:decide (D < 1)=false:=decide_eq_false (by omega)
  have HD:Hid (∀ W,Calls Tryz.prog 58 #[.int .i64 y,.int .i64 ((j:Int)+1)] W fun e w'=>e=.returned (.int .i64 D)∧Keeps W w'):=Lib.hid (fun W=>by rw [← hD];exact daysR_any _ _ W)
  have HMK:Hid (∀ i,i < 12→MonthOk y i):=Lib.hid (fun i hi=>month_ok h1 h2 hi)
  clear hM hD
  go_enter Tryz.func140,Tryz.ntmps140
  go_wp2_with (go_at_call 58;refine (HD.out _).mono ?_;rintro e w1 ⟨rfl,hk1⟩)
  go_loopw [8,9] (fun vn va wr=>∃ c:Int,1900≤c∧c≤y∧va=.int .i64 c∧vn=.int .i64 (begF c)∧wr=w1) (fun _ va _=>(y - intOf va).toNat)
  case atStart=>exact ⟨1900,by omega,by omega,rfl,congrArg (Value.int .i64) beg_1900.symm,rfl⟩
  case round=>
   obtain ⟨c,hc1,hc2,rfl,rfl,rfl⟩:=hrel
   obtain ⟨B,hB⟩:∃ B,begF c=B:=⟨_,rfl⟩
   have hbd:=beg_bd hc1 (by omega)
   rw [hB] at hbd
   by_cases hlt:c < y
   ·have e2:decide (c < y)=true:=decide_eq_true hlt
    cases hq:leapF c with
    | true=>
     have HST:Hid (begF (c+1)=B+366):=Lib.hid (by rw [← hB];exact beg_stepT (by omega) (by omega) hq)
     have HLP:Hid (∀ W,Calls Tryz.prog 95 #[.int .i64 c] W fun e w'=>e=.returned (.bool true)∧W=w'):=Lib.hid (fun W=>by rw [← hq];exact leapR_any c W)
     rw [hB]
     clear hB hq
     go_wp2_with (go_at_call 95;refine (HLP.out _).mono ?_;rintro e w2 ⟨rfl,rfl⟩)
     go_roundw
     case rel=>exact ⟨c+1,by omega,by omega,congrArg (Value.int .i64) (by omega),congrArg (Value.int .i64) (by have:=HST.out;omega),by first | rfl | trivial⟩
     case measure=>simp [intOf];omega
    | false=>
     have HST:Hid (begF (c+1)=B+365):=Lib.hid (by rw [← hB];exact beg_stepF (by omega) (by omega) hq)
     have HLP:Hid (∀ W,Calls Tryz.prog 95 #[.int .i64 c] W fun e w'=>e=.returned (.bool false)∧W=w'):=Lib.hid (fun W=>by rw [← hq];exact leapR_any c W)
     rw [hB]
     clear hB hq
     go_wp2_with (go_at_call 95;refine (HLP.out _).mono ?_;rintro e w2 ⟨rfl,rfl⟩)
     go_roundw
     case rel=>exact ⟨c+1,by omega,by omega,congrArg (Value.int .i64) (by omega),congrArg (Value.int .i64) (by have:=HST.out;omega),by first | rfl | trivial⟩
     case measure=>simp [intOf];omega
   ·obtain rfl:c=y:=by omega
    have e2:decide (c < c)=false:=decide_eq_false (by omega)
    rw [hB] at HO
    rw [hB]
    clear hB
    obtain ⟨wo,rfl⟩:∃ wo:World,wo=wr:=⟨_,rfl⟩
    go_wp2_with fail
    go_loopw [8,10] (fun vn vk wr=>∃ k:Nat,k≤j∧vk=.int .i64 ((k:Int)+1)∧vn=.int .i64 (B+mofF c k)∧Hid (Keeps w wr)) (fun _ vk _=>j+1 - (intOf vk).toNat)
    case atStart=>exact ⟨0,Nat.zero_le _,rfl,congrArg (Value.int .i64) (by show _=B+0;omega),Lib.hid hk1⟩
    case round=>
     obtain ⟨k,hk,rfl,rfl,HW⟩:=hrel
     by_cases hlt:k < j
     ·have hM:=HMK.out k (by omega)
      obtain ⟨M,hMq⟩:∃ M,mofF c k=M:=⟨_,rfl⟩
      obtain ⟨E,hE⟩:∃ E,dmF c ((k:Int)+1)=E:=⟨_,rfl⟩
      have m0:=hM.m0
      have m1:=hM.m1
      have d1:=hM.d28
      have d2:=hM.d31
      rw [hMq] at m0 m1
      rw [show (((k+1:Nat):Int))=(k:Int)+1 from by omega,hE] at d1 d2
      have HDE:Hid (∀ W,Calls Tryz.prog 58 #[.int .i64 c,.int .i64 ((k:Int)+1)] W fun e w'=>e=.returned (.int .i64 E)∧Keeps W w'):=Lib.hid (fun W=>by rw [← hE];exact daysR_any _ _ W)
      have HME:Hid (mofF c (k+1)=M+E):=Lib.hid (by rw [← hMq,← hE];rfl)
      have e3:decide ((k:Int)+1 < (j:Int)+1)=true:=decide_eq_true (by omega)
      have e4:decide (k < j)=true:=decide_eq_true hlt
      rw [hMq]
      clear hM hMq hE
      go_wp2_with (go_at_call 58;refine (HDE.out _).mono ?_;rintro e w3 ⟨rfl,hk3⟩)
      go_roundw
      case rel=>exact ⟨k+1,by omega,congrArg (Value.int .i64) (by omega),congrArg (Value.int .i64) (by rw [HME.out];omega),Lib.hid (HW.out.trans hk3)⟩
      case measure=>simp [intOf];omega
     ·obtain rfl:k=j:=by omega
      have e3:decide ((k:Int)+1 < (k:Int)+1)=false:=decide_eq_false (by omega)
      obtain ⟨M,hMq⟩:∃ M,mofF c k=M:=⟨_,rfl⟩
      have hM:=HMK.out k (by omega)
      have m0:=hM.m0
      have m1:=hM.m1
      rw [hMq] at m0 m1 HO
      rw [hMq]
      clear hM hMq
      go_wp2_with fail
      go_ret2
      exact ⟨by rw [HO.out];first | rfl | (congr 3;simp only [Value.int.injEq,true_and];omega) | simp,HW.out⟩
 ·have h0:dmF y m=0:=dmF_zero (by omega)
  have HO:=Lib.hid (ofF_bad (y:=y) (m:=m) (by omega))
  have HD:Hid (∀ W,Calls Tryz.prog 58 #[.int .i64 y,.int .i64 m] W fun e w'=>e=.returned (.int .i64 0)∧Keeps W w'):=Lib.hid (fun W=>by rw [← h0];exact daysR_any _ _ W)
  clear h0 hv
  go_enter Tryz.func140,Tryz.ntmps140
  go_wp2_with (go_at_call 58;refine (HD.out _).mono ?_;rintro e w1 ⟨rfl,hk1⟩)
  go_ret2
  exact ⟨by rw [HO.out];rfl,hk1⟩
set_option maxRecDepth 100000 in
theorem civR_any (y:Int) (j:Nat) (h1:1900≤y) (h2:y≤2199) (hj:j < 12) (w:World):Calls Tryz.prog 57 #[.int .i64 (begF y+mofF y j)] w fun e w'=>e=.returned (.tuple #[.int .i64 y,.int .i64 ((j:Int)+1),.int .i64 1,.int .i64 0])∧Keeps w w':=by
 have hM:=month_ok h1 h2 hj
 obtain ⟨d,hd⟩:∃ d,begF y+mofF y j=d:=⟨_,rfl⟩
 have hmin:=hM.min
 have hmax:=hM.max
 have hlt:=hM.lt
 rw [hd] at hmin hmax hlt
 have HV:Hid (∀ W,Calls Tryz.prog 94 #[.int .i64 d] W fun e w'=>e=.returned (.bool true)∧W=w'):=Lib.hid (fun W=>by
  have:=hrdate_any d W
  rw [show dateB d=true from by unfold dateB;simp;omega] at this
  exact this)
 have HDY:Hid (∀ m W,Calls Tryz.prog 58 #[.int .i64 y,.int .i64 m] W fun e w'=>e=.returned (.int .i64 (dmF y m))∧Keeps W w'):=Lib.hid (fun m W=>daysR_any y m W)
 have HDJ:Hid (d - begF y=mofF y j):=Lib.hid (by omega)
 have hmj1:=hM.m0
 have hmj2:=hM.m1
 clear hM hd
 rw [show begF y+mofF y j=d from by have:=HDJ.out;omega]
 go_enter Tryz.func57,Tryz.ntmps57
 go_wp2_with (go_at_call 94;refine (HV.out _).mono ?_;rintro e w1 ⟨rfl,rfl⟩)
 go_loopw [6,8] (fun vy vr wr=>∃ c:Int,1900≤c∧c≤y∧vy=.int .i64 c∧vr=.int .i64 (d - begF c)∧wr=w) (fun vy _ _=>(y - intOf vy).toNat)
 case atStart=>exact ⟨1900,by omega,by omega,rfl,congrArg (Value.int .i64) (by rw [beg_1900];omega),rfl⟩
 case round=>
  obtain ⟨c,hc1,hc2,rfl,rfl,rfl⟩:=hrel
  obtain ⟨B,hB⟩:∃ B,begF c=B:=⟨_,rfl⟩
  have hbd:=beg_bd hc1 (by omega)
  rw [hB] at hbd
  by_cases hlt2:c < y
  ·have hle:=beg_le (a:=c+1) (b:=y) (by omega) (by omega) (by omega)
   have hdj:=HDJ.out
   cases hq:leapF c with
   | true=>
    have hst:begF (c+1)=B+366:=by rw [← hB];exact beg_stepT (by omega) (by omega) hq
    have HST:=Lib.hid hst
    have HLP:Hid (∀ W,Calls Tryz.prog 95 #[.int .i64 c] W fun e w'=>e=.returned (.bool true)∧W=w'):=Lib.hid (fun W=>by rw [← hq];exact leapR_any c W)
    rw [hst] at hle
    have e1:decide (366≤d - B)=true:=decide_eq_true (by omega)
    rw [hB]
    clear hB hq hst hle hdj
    go_wp2_with (go_at_call 95;refine (HLP.out _).mono ?_;rintro e w2 ⟨rfl,rfl⟩)
    go_roundw
    case rel=>exact ⟨c+1,by omega,by omega,congrArg (Value.int .i64) (by omega),congrArg (Value.int .i64) (by have:=HST.out;omega),by first | rfl | trivial⟩
    case measure=>simp [intOf];omega
   | false=>
    have hst:begF (c+1)=B+365:=by rw [← hB];exact beg_stepF (by omega) (by omega) hq
    have HST:=Lib.hid hst
    have HLP:Hid (∀ W,Calls Tryz.prog 95 #[.int .i64 c] W fun e w'=>e=.returned (.bool false)∧W=w'):=Lib.hid (fun W=>by rw [← hq];exact leapR_any c W)
    rw [hst] at hle
    have e1:decide (365≤d - B)=true:=decide_eq_true (by omega)
    rw [hB]
    clear hB hq hst hle hdj
    go_wp2_with (go_at_call 95;refine (HLP.out _).mono ?_;rintro e w2 ⟨rfl,rfl⟩)
    go_roundw
    case rel=>exact ⟨c+1,by omega,by omega,congrArg (Value.int .i64) (by omega),congrArg (Value.int .i64) (by have:=HST.out;omega),by first | rfl | trivial⟩
    case measure=>simp [intOf];omega
  ·obtain rfl:c=y:=by omega
   rw [hB] at HDJ
   have HMK:Hid (∀ i,i < 12→MonthOk c i):=Lib.hid (fun i hi=>month_ok h1 h2 hi)
   have HMM:Hid (∀ i,i < j→mofF c i+dmF c ((i:Int)+1)≤mofF c j):=Lib.hid (fun i hi=>mof_mono h1 h2 hi hj)
   obtain ⟨X,hX⟩:∃ X,d - B=X:=⟨_,rfl⟩
   have HXJ:Hid (X=mofF c j):=Lib.hid (by rw [← hX];exact HDJ.out)
   have hX0:0≤X∧X≤366:=by rw [HXJ.out];exact ⟨hmj1,hmj2⟩
   cases hq:leapF c with
   | true=>
    have hst:begF (c+1)=B+366:=by rw [← hB];exact beg_stepT (by omega) (by omega) hq
    have HLP:Hid (∀ W,Calls Tryz.prog 95 #[.int .i64 c] W fun e w'=>e=.returned (.bool true)∧W=w'):=Lib.hid (fun W=>by rw [← hq];exact leapR_any c W)
    rw [hst] at hlt
    have e3:decide (366≤X)=false:=decide_eq_false (by omega)
    rw [hB,hX]
    clear hB hq hst hlt hX HDJ
    obtain ⟨wo,rfl⟩:∃ wo:World,wo=wr:=⟨_,rfl⟩
    go_wp2_with (go_at_call 95;refine (HLP.out _).mono ?_;rintro e w2 ⟨rfl,rfl⟩)
    go_loopw [8,7] (fun vd vm wr=>∃ i:Nat,i≤j∧vm=.int .i64 ((i:Int)+1)∧vd=.int .i64 (X - mofF c i)∧Hid (Keeps wo wr)) (fun _ vm _=>j+1 - (intOf vm).toNat)
    case atStart=>exact ⟨0,Nat.zero_le _,rfl,congrArg (Value.int .i64) (by show _=X - 0;omega),Lib.hid (Keeps.refl _)⟩
    case round=>
     obtain ⟨i,hi,rfl,rfl,HW⟩:=hrel
     have hM:=HMK.out i (by omega)
     obtain ⟨M,hMq⟩:∃ M,mofF c i=M:=⟨_,rfl⟩
     obtain ⟨E,hE⟩:∃ E,dmF c ((i:Int)+1)=E:=⟨_,rfl⟩
     have m0:=hM.m0
     have m1:=hM.m1
     have d1:=hM.d28
     have d2:=hM.d31
     rw [hMq] at m0 m1
     rw [show (((i+1:Nat):Int))=(i:Int)+1 from by omega,hE] at d1 d2
     have HDE:Hid (∀ W,Calls Tryz.prog 58 #[.int .i64 c,.int .i64 ((i:Int)+1)] W fun e w'=>e=.returned (.int .i64 E)∧Keeps W w'):=Lib.hid (fun W=>by rw [← hE];exact HDY.out _ W)
     have HME:Hid (mofF c (i+1)=M+E):=Lib.hid (by rw [← hMq,← hE];rfl)
     by_cases hij:i < j
     ·have hmm:=HMM.out i hij
      rw [hMq,hE,← HXJ.out] at hmm
      have e5:decide (E≤X - M)=true:=decide_eq_true (by omega)
      rw [hMq]
      clear hM hMq hE
      go_wp2_with (go_at_call 58;first | (guard_hyp hk4:_;refine (HDE.out _).mono ?_;rintro e w5 ⟨rfl,hk5⟩) | (refine (HDE.out _).mono ?_;rintro e w4 ⟨rfl,hk4⟩))
      go_roundw
      case rel=>exact ⟨i+1,by omega,congrArg (Value.int .i64) (by omega),congrArg (Value.int .i64) (by rw [HME.out];omega),Lib.hid ((HW.out.trans hk4).trans hk5)⟩
      case measure=>simp [intOf];omega
     ·obtain rfl:i=j:=by omega
      have hx0:=HXJ.out
      rw [hMq] at hx0
      subst hx0
      have e5:decide (E≤X - X)=false:=decide_eq_false (by omega)
      have e6:decide (E≤0)=false:=decide_eq_false (by omega)
      rw [hMq]
      clear hM hMq hE
      go_wp2_with (go_at_call 58;refine (HDE.out _).mono ?_;rintro e w4 ⟨rfl,hk4⟩)
      refine bodyPost_ret (results_tmp4 rfl _ _ _) rfl ?_
      exact ⟨by simp,HW.out.trans hk4⟩
   | false=>
    have hst:begF (c+1)=B+365:=by rw [← hB];exact beg_stepF (by omega) (by omega) hq
    have HLP:Hid (∀ W,Calls Tryz.prog 95 #[.int .i64 c] W fun e w'=>e=.returned (.bool false)∧W=w'):=Lib.hid (fun W=>by rw [← hq];exact leapR_any c W)
    rw [hst] at hlt
    have e3:decide (365≤X)=false:=decide_eq_false (by omega)
    rw [hB,hX]
    clear hB hq hst hlt hX HDJ
    obtain ⟨wo,rfl⟩:∃ wo:World,wo=wr:=⟨_,rfl⟩
    go_wp2_with (go_at_call 95;refine (HLP.out _).mono ?_;rintro e w2 ⟨rfl,rfl⟩)
    go_loopw [8,7] (fun vd vm wr=>∃ i:Nat,i≤j∧vm=.int .i64 ((i:Int)+1)∧vd=.int .i64 (X - mofF c i)∧Hid (Keeps wo wr)) (fun _ vm _=>j+1 - (intOf vm).toNat)
    case atStart=>exact ⟨0,Nat.zero_le _,rfl,congrArg (Value.int .i64) (by show _=X - 0;omega),Lib.hid (Keeps.refl _)⟩
    case round=>
     obtain ⟨i,hi,rfl,rfl,HW⟩:=hrel
     have hM:=HMK.out i (by omega)
     obtain ⟨M,hMq⟩:∃ M,mofF c i=M:=⟨_,rfl⟩
     obtain ⟨E,hE⟩:∃ E,dmF c ((i:Int)+1)=E:=⟨_,rfl⟩
     have m0:=hM.m0
     have m1:=hM.m1
     have d1:=hM.d28
     have d2:=hM.d31
     rw [hMq] at m0 m1
     rw [show (((i+1:Nat):Int))=(i:Int)+1 from by omega,hE] at d1 d2
     have HDE:Hid (∀ W,Calls Tryz.prog 58 #[.int .i64 c,.int .i64 ((i:Int)+1)] W fun e w'=>e=.returned (.int .i64 E)∧Keeps W w'):=Lib.hid (fun W=>by rw [← hE];exact HDY.out _ W)
     have HME:Hid (mofF c (i+1)=M+E):=Lib.hid (by rw [← hMq,← hE];rfl)
     by_cases hij:i < j
     ·have hmm:=HMM.out i hij
      rw [hMq,hE,← HXJ.out] at hmm
      have e5:decide (E≤X - M)=true:=decide_eq_true (by omega)
      rw [hMq]
      clear hM hMq hE
      go_wp2_with (go_at_call 58;first | (guard_hyp hk4:_;refine (HDE.out _).mono ?_;rintro e w5 ⟨rfl,hk5⟩) | (refine (HDE.out _).mono ?_;rintro e w4 ⟨rfl,hk4⟩))
      go_roundw
      case rel=>exact ⟨i+1,by omega,congrArg (Value.int .i64) (by omega),congrArg (Value.int .i64) (by rw [HME.out];omega),Lib.hid ((HW.out.trans hk4).trans hk5)⟩
      case measure=>simp [intOf];omega
     ·obtain rfl:i=j:=by omega
      have hx0:=HXJ.out
      rw [hMq] at hx0
      subst hx0
      have e5:decide (E≤X - X)=false:=decide_eq_false (by omega)
      have e6:decide (E≤0)=false:=decide_eq_false (by omega)
      rw [hMq]
      clear hM hMq hE
      go_wp2_with (go_at_call 58;refine (HDE.out _).mono ?_;rintro e w4 ⟨rfl,hk4⟩)
      refine bodyPost_ret (results_tmp4 rfl _ _ _) rfl ?_
      exact ⟨by simp,HW.out.trans hk4⟩
end Go.Proofs.YtoaidbhiciaeaaaGreat

end
section
namespace Go.Proofs.YtoaidbhiciaeaaaGreat
open Go.RowKit
def fdE (n:Int):Int × Int:=if n < 26400 then (fdF n,0) else (0,2)
theorem ofF_month {n:Int} (h:22800≤n):ofF (n.tdiv 12) (n.tmod 12+1) 1=fdE n:=by
 unfold fdE fdF
 have hn:0≤n.tmod 12∧n.tmod 12 < 12:=by rw [tmod12 (by omega)];omega
 by_cases h2:n < 26400
 ·have:=month_of h h2
  rw [if_pos h2,ofF_one this.1 this.2.1 (by omega) (by omega)]
  congr 3
  omega
 ·rw [if_neg h2,ofF_bad (.inr (.inl ?_))]
  rw [tdiv12 (by omega)]
  omega
def chkF (y m n p:Int):Int:=if calB y m n=true then (if p < 0∨n≤p then 2 else 0) else 1
def firF (y m n p:Int):Int × Int:=if chkF y m n p=0 then (fdF (12 * y+m - 1+p),0) else (0,chkF y m n p)
def lasF (y m n p:Int):Int × Int:=if chkF y m n p=0 then (fdF (12 * y+m - 1+p)+dmF ((12 * y+m - 1+p).tdiv 12) ((12 * y+m - 1+p).tmod 12+1) - 1,0) else (0,chkF y m n p)
def yrF (y m n p:Int):Int × Int:=if chkF y m n p=0 then (fdF (12 * y+m - 1+(p - p.tmod 12)),0) else (0,chkF y m n p)
theorem chk_ok {y m n p:Int} (h:chkF y m n p=0):1≤m∧m≤12∧1≤n∧n≤120∧1900≤y∧y≤2199∧0≤p∧p < n∧12 * y+m - 1+p < 26400:=by
 unfold chkF at h
 split at h
 ·rename_i hc
  have:=calB_true hc
  split at h <;> omega
 ·omega
theorem firstP_any (y m n p:Int) (h1:1900≤y) (h2:y≤2199) (h3:1≤m) (h4:m≤12) (h5:0≤p) (h6:p≤200) (w:World) :
  Calls Tryz.prog 75 #[.agg #[.int .i64 y,.int .i64 m,.int .i64 n],.int .i64 p] w fun e w'=>e=.returned (.tuple #[.int .i64 (fdE (12 * y+m - 1+p)).1,.int .i64 (fdE (12 * y+m - 1+p)).2])∧Keeps w w':=by
 have HO:=Lib.hid (ofF_month (n:=12 * y+m - 1+p) (by omega))
 obtain ⟨a,ha⟩:∃ a,(12 * y+m - 1+p).tdiv 12=a:=⟨_,rfl⟩
 obtain ⟨b,hb⟩:∃ b,(12 * y+m - 1+p).tmod 12=b:=⟨_,rfl⟩
 have hb2:0≤b∧b < 12:=by rw [← hb,tmod12 (by omega)];omega
 have ha2:0≤a∧a < 3000:=by rw [← ha,tdiv12 (by omega)];omega
 rw [ha,hb] at HO
 have HOF:Hid (∀ W,Calls Tryz.prog 115 #[.int .i64 a,.int .i64 (b+1),.int .i64 1] W fun e w'=>e=.returned (.tuple #[.int .i64 (fdE (12 * y+m - 1+p)).1,.int .i64 (fdE (12 * y+m - 1+p)).2])∧Keeps W w'):=Lib.hid (fun W=>by rw [← HO.out];exact ofP_any a (b+1) W)
 obtain ⟨⟨r1,r2⟩,hr⟩:∃ r,fdE (12 * y+m - 1+p)=r:=⟨_,rfl⟩
 rw [hr] at HOF ⊢
 clear hr HO
 go_enter Tryz.func75,Tryz.ntmps75
 go_wp2_with (go_at_call 115;refine (HOF.out _).mono ?_;rintro e w1 ⟨rfl,hk1⟩)
 go_ret2
 exact ⟨rfl,((Keeps.refl w).alloc _).trans hk1⟩
theorem validC_any (y m n:Int) (w:World):Calls Tryz.prog 63 #[.agg #[.int .i64 y,.int .i64 m,.int .i64 n]] w fun e w'=>e=.returned (.bool (calB y m n))∧Keeps w w':=by
 by_cases h1:m < 1
 ·have e1:decide (m < 1)=true:=decide_eq_true h1
  have HB:Hid (calB y m n=false):=Lib.hid (decide_eq_false (by omega))
  clear h1
  go_enter Tryz.func63,Tryz.ntmps63
  go_wp2_with fail
  go_ret
  exact ⟨by rw [HB.out];rfl,(Keeps.refl w).alloc _⟩
 by_cases h2:12 < m
 ·have e1:decide (m < 1)=false:=decide_eq_false h1
  have e2:decide (12 < m)=true:=decide_eq_true h2
  have HB:Hid (calB y m n=false):=Lib.hid (decide_eq_false (by omega))
  clear h1 h2
  go_enter Tryz.func63,Tryz.ntmps63
  go_wp2_with fail
  go_ret
  exact ⟨by rw [HB.out];rfl,(Keeps.refl w).alloc _⟩
 by_cases h3:n < 1
 ·have e1:decide (m < 1)=false:=decide_eq_false h1
  have e2:decide (12 < m)=false:=decide_eq_false h2
  have e3:decide (n < 1)=true:=decide_eq_true h3
  have HB:Hid (calB y m n=false):=Lib.hid (decide_eq_false (by omega))
  clear h1 h2 h3
  go_enter Tryz.func63,Tryz.ntmps63
  go_wp2_with fail
  go_ret
  exact ⟨by rw [HB.out];rfl,(Keeps.refl w).alloc _⟩
 by_cases h4:120 < n
 ·have e1:decide (m < 1)=false:=decide_eq_false h1
  have e2:decide (12 < m)=false:=decide_eq_false h2
  have e3:decide (n < 1)=false:=decide_eq_false h3
  have e4:decide (120 < n)=true:=decide_eq_true h4
  have HB:Hid (calB y m n=false):=Lib.hid (decide_eq_false (by omega))
  clear h1 h2 h3 h4
  go_enter Tryz.func63,Tryz.ntmps63
  go_wp2_with fail
  go_ret
  exact ⟨by rw [HB.out];rfl,(Keeps.refl w).alloc _⟩
 by_cases h5:y < 1900
 ·have e1:decide (m < 1)=false:=decide_eq_false h1
  have e2:decide (12 < m)=false:=decide_eq_false h2
  have e3:decide (n < 1)=false:=decide_eq_false h3
  have e4:decide (120 < n)=false:=decide_eq_false h4
  have e5:decide (y < 1900)=true:=decide_eq_true h5
  have HB:Hid (calB y m n=false):=Lib.hid (decide_eq_false (by omega))
  clear h1 h2 h3 h4 h5
  go_enter Tryz.func63,Tryz.ntmps63
  go_wp2_with fail
  go_ret
  exact ⟨by rw [HB.out];rfl,(Keeps.refl w).alloc _⟩
 by_cases h6:2199 < y
 ·have e1:decide (m < 1)=false:=decide_eq_false h1
  have e2:decide (12 < m)=false:=decide_eq_false h2
  have e3:decide (n < 1)=false:=decide_eq_false h3
  have e4:decide (120 < n)=false:=decide_eq_false h4
  have e5:decide (y < 1900)=false:=decide_eq_false h5
  have e6:decide (2199 < y)=true:=decide_eq_true h6
  have HB:Hid (calB y m n=false):=Lib.hid (decide_eq_false (by omega))
  clear h1 h2 h3 h4 h5 h6
  go_enter Tryz.func63,Tryz.ntmps63
  go_wp2_with fail
  go_ret
  exact ⟨by rw [HB.out];rfl,(Keeps.refl w).alloc _⟩
 have e1:decide (m < 1)=false:=decide_eq_false h1
 have e2:decide (12 < m)=false:=decide_eq_false h2
 have e3:decide (n < 1)=false:=decide_eq_false h3
 have e4:decide (120 < n)=false:=decide_eq_false h4
 have e5:decide (y < 1900)=false:=decide_eq_false h5
 have e6:decide (2199 < y)=false:=decide_eq_false h6
 have HF:Hid (∀ W,Calls Tryz.prog 75 #[.agg #[.int .i64 y,.int .i64 m,.int .i64 n],.int .i64 (n - 1)] W fun e w'=>e=.returned (.tuple #[.int .i64 (fdE (12 * y+m - 1+(n - 1))).1,.int .i64 (fdE (12 * y+m - 1+(n - 1))).2])∧Keeps W w'):=Lib.hid (fun W=>firstP_any y m n (n - 1) (by omega) (by omega) (by omega) (by omega) (by omega) (by omega) W)
 have hcb:calB y m n=((fdE (12 * y+m - 1+(n - 1))).2 == 0):=by
  unfold calB fdE
  by_cases h7:12 * y+m - 1+(n - 1) < 26400
  ·rw [if_pos h7,decide_eq_true (by omega)];rfl
  ·rw [if_neg h7,decide_eq_false (by omega)];rfl
 obtain ⟨⟨r1,r2⟩,hr⟩:∃ r,fdE (12 * y+m - 1+(n - 1))=r:=⟨_,rfl⟩
 rw [hr] at HF hcb
 have HB:=Lib.hid hcb
 have hn1:1≤n∧n≤120:=by omega
 clear hr hcb h1 h2 h3 h4 h5 h6
 go_enter Tryz.func63,Tryz.ntmps63
 go_wp2_with (go_at_call 75;refine (HF.out _).mono ?_;rintro e w1 ⟨rfl,hk1⟩)
 go_ret
 exact ⟨by rw [HB.out];rfl,((Keeps.refl w).alloc _).trans hk1⟩
theorem addR_any (y:Int) (j:Nat) (p:Int) (h1:1900≤y) (h2:y≤2199) (hj:j < 12) (h5:0≤p) (h6:p≤200) (w:World) :
  Calls Tryz.prog 141 #[.int .i64 (begF y+mofF y j),.int .i64 p] w fun e w'=>e=.returned (.tuple #[.int .i64 (fdE (12 * y+j+p)).1,.int .i64 (fdE (12 * y+j+p)).2])∧Keeps w w':=by
 have HC:Hid (∀ W,Calls Tryz.prog 57 #[.int .i64 (begF y+mofF y j)] W fun e w'=>e=.returned (.tuple #[.int .i64 y,.int .i64 ((j:Int)+1),.int .i64 1,.int .i64 0])∧Keeps W w'):=Lib.hid (fun W=>civR_any y j h1 h2 hj W)
 obtain ⟨d,hd⟩:∃ d,begF y+mofF y j=d:=⟨_,rfl⟩
 rw [hd] at HC ⊢
 obtain ⟨a,ha⟩:∃ a,(12 * y+(j:Int)+p).tdiv 12=a:=⟨_,rfl⟩
 obtain ⟨b,hb⟩:∃ b,(12 * y+(j:Int)+p).tmod 12=b:=⟨_,rfl⟩
 have hb2:0≤b∧b < 12:=by rw [← hb,tmod12 (by omega)];omega
 have ha2:1900≤a∧a < 3000∧(a≤2199↔12 * y+(j:Int)+p < 26400):=by rw [← ha,tdiv12 (by omega)];omega
 have HO:=Lib.hid (ofF_month (n:=12 * y+(j:Int)+p) (by omega))
 rw [ha,hb] at HO
 have e1:decide (p < -3600)=false:=decide_eq_false (by omega)
 have e2:decide (3600 < p)=false:=decide_eq_false (by omega)
 have e3:decide (a < 1900)=false:=decide_eq_false (by omega)
 have hs:12 * y+((j:Int)+1) - 1+p=12 * y+(j:Int)+p:=by omega
 by_cases h7:a≤2199
 ·have e4:decide (2199 < a)=false:=decide_eq_false (by omega)
  obtain ⟨D,hD⟩:∃ D,dmF a (b+1)=D:=⟨_,rfl⟩
  have hD2:28≤D:=by
   have:=(month_ok (y:=a) (by omega) h7 (show b.toNat < 12 by omega)).d28
   rw [show ((b.toNat+1:Nat):Int)=b+1 from by omega,hD] at this
   exact this
  have HD:Hid (∀ W,Calls Tryz.prog 58 #[.int .i64 a,.int .i64 (b+1)] W fun e w'=>e=.returned (.int .i64 D)∧Keeps W w'):=Lib.hid (fun W=>by rw [← hD];exact daysR_any _ _ W)
  have HOF:Hid (∀ W,Calls Tryz.prog 140 #[.int .i64 a,.int .i64 (b+1),.int .i64 1] W fun e w'=>e=.returned (.tuple #[.int .i64 (fdE (12 * y+(j:Int)+p)).1,.int .i64 (fdE (12 * y+(j:Int)+p)).2])∧Keeps W w'):=Lib.hid (fun W=>by rw [← HO.out];exact ofR_any a (b+1) W)
  obtain ⟨⟨r1,r2⟩,hr⟩:∃ r,fdE (12 * y+(j:Int)+p)=r:=⟨_,rfl⟩
  rw [hr] at HOF ⊢
  have e5:decide (D < 1)=false:=decide_eq_false (by omega)
  have e6:decide (1≤D)=true:=decide_eq_true (by omega)
  have hmin:min (1:Int) D=1:=by omega
  clear hr HO hD hd
  go_enter Tryz.func141,Tryz.ntmps141
  go_wp2_with (first | (go_at_call 57;refine (HC.out _).mono ?_;rintro e w1 ⟨rfl,hk1⟩) | (go_at_call 58;refine (HD.out _).mono ?_;rintro e w2 ⟨rfl,hk2⟩) | (go_at_call 140;refine (HOF.out _).mono ?_;rintro e w3 ⟨rfl,hk3⟩))
  go_ret2
  exact ⟨rfl,hk1.trans (hk2.trans hk3)⟩
 ·have e4:decide (2199 < a)=true:=decide_eq_true (by omega)
  have HE:Hid (fdE (12 * y+(j:Int)+p)=(0,2)):=Lib.hid (by unfold fdE;rw [if_neg (by omega)])
  clear HO hd
  go_enter Tryz.func141,Tryz.ntmps141
  go_wp2_with (go_at_call 57;refine (HC.out _).mono ?_;rintro e w1 ⟨rfl,hk1⟩)
  go_ret2
  exact ⟨by rw [HE.out];rfl,hk1⟩
end Go.Proofs.YtoaidbhiciaeaaaGreat

end
