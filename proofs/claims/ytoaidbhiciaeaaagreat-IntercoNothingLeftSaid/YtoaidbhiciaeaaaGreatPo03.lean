/- Walks and plain facts that the claim rests on (HolSmall, DateW, DateO). No condition. -/
import Derived.Test.YtoaidbhiciaeaaaGreatPo02
import Derived.Test.YtoaidbhiciaeaaaGreatPo01
set_option linter.unusedSimpArgs false
set_option linter.unusedVariables false
set_option maxHeartbeats 16000000
section
namespace Go.Proofs.YtoaidbhiciaeaaaGreat
open Go.RowKit
theorem hdate_any (d:Int) (w:World):Calls Tryz.prog 109 #[.int .i64 d] w fun e w'=>e=.returned (.bool (dateB d))∧w=w':=by
 by_cases h:-25567≤d
 ·go_enter Tryz.func109,Tryz.ntmps109
  go_wp2
  go_ret
  exact ⟨retb (by first | (simp [dateB,h];done) | (simp [dateB];omega)),rfl⟩
 ·go_enter Tryz.func109,Tryz.ntmps109
  go_wp2
  go_ret
  exact ⟨retb (by first | (simp [dateB,h];done) | (simp [dateB];omega)),rfl⟩
theorem hrdate_any (d:Int) (w:World):Calls Tryz.prog 94 #[.int .i64 d] w fun e w'=>e=.returned (.bool (dateB d))∧w=w':=by
 by_cases h:-25567≤d
 ·go_enter Tryz.func94,Tryz.ntmps94
  go_wp2
  go_ret
  exact ⟨retb (by first | (simp [dateB,h];done) | (simp [dateB];omega)),rfl⟩
 ·go_enter Tryz.func94,Tryz.ntmps94
  go_wp2
  go_ret
  exact ⟨retb (by first | (simp [dateB,h];done) | (simp [dateB];omega)),rfl⟩
def sameH (a b:Hol):Bool:=a.holder == b.holder && a.entity == b.entity && a.date == b.date
def properB (n:Int) (x:Hol):Bool:=decide (0≤x.holder) && decide (x.holder < n) && decide (0≤x.entity) && decide (x.entity < n) && (x.holder != x.entity) && dateB x.date && decide (0≤x.share) && decide (x.share≤10000)
set_option maxRecDepth 100000 in
theorem rsame_any (a b:Hol) (w:World):Calls Tryz.prog 88 #[.agg #[.int .i64 a.holder,.int .i64 a.entity,.int .i64 a.date,.int .i64 a.share],.agg #[.int .i64 b.holder,.int .i64 b.entity,.int .i64 b.date,.int .i64 b.share]] w fun e w'=>e=.returned (.bool (sameH a b))∧Keeps w w':=by
 cases h1:(a.holder == b.holder) with
 | false=>
  have HQ:Hid (sameH a b=false):=Lib.hid (by simp [sameH,h1])
  go_enter Tryz.func88,Tryz.ntmps88
  go_wp2
  go_ret
  rw [HQ.out]
  exact ⟨rfl,((Keeps.refl w).alloc _).alloc _⟩
 | true=>
  cases h2:(a.entity == b.entity) with
  | false=>
   have HQ:Hid (sameH a b=false):=Lib.hid (by simp [sameH,h1,h2])
   go_enter Tryz.func88,Tryz.ntmps88
   go_wp2
   go_ret
   rw [HQ.out]
   exact ⟨rfl,((Keeps.refl w).alloc _).alloc _⟩
  | true=>
   have HQ:Hid (sameH a b=(a.date == b.date)):=Lib.hid (by simp [sameH,h1,h2])
   go_enter Tryz.func88,Tryz.ntmps88
   go_wp2
   go_ret
   rw [HQ.out]
   exact ⟨rfl,((Keeps.refl w).alloc _).alloc _⟩
set_option maxRecDepth 100000 in
theorem rproperH_any (n:Int) (x:Hol) (w:World):Calls Tryz.prog 87 #[.int .i64 n,.agg #[.int .i64 x.holder,.int .i64 x.entity,.int .i64 x.date,.int .i64 x.share]] w fun e w'=>e=.returned (.bool (properB n x))∧Keeps w w':=by
 obtain ⟨dv,hdv⟩:∃ dv,dateB x.date=dv:=⟨_,rfl⟩
 have HD:Hid (∀ W,Calls Tryz.prog 94 #[.int .i64 x.date] W fun e w'=>e=.returned (.bool dv)∧W=w'):=Lib.hid (fun W=>by have:=hrdate_any x.date W;rw [hdv] at this;exact this)
 by_cases h1:0≤x.holder
 ·by_cases h2:x.holder < n
  ·by_cases h3:0≤x.entity
   ·by_cases h4:x.entity < n
    ·cases h5:(x.holder != x.entity) with
     | false=>
      have HQ:Hid (properB n x=false):=Lib.hid (by simp only [properB,h5,Bool.and_false,Bool.false_and])
      clear hdv
      go_enter Tryz.func87,Tryz.ntmps87
      go_wp2_with (go_at_call 94;refine (HD.out _).mono ?_;rintro e w1 ⟨rfl,rfl⟩)
      go_ret
      rw [HQ.out]
      exact ⟨rfl,(Keeps.refl w).alloc _⟩
     | true=>
      cases dv with
      | false=>
       have HQ:Hid (properB n x=false):=Lib.hid (by simp only [properB,hdv,Bool.and_false,Bool.false_and])
       clear hdv
       go_enter Tryz.func87,Tryz.ntmps87
       go_wp2_with (go_at_call 94;refine (HD.out _).mono ?_;rintro e w1 ⟨rfl,rfl⟩)
       go_ret
       rw [HQ.out]
       exact ⟨rfl,(Keeps.refl w).alloc _⟩
      | true=>
       by_cases h6:0≤x.share
       ·have HQ:Hid (properB n x=decide (x.share≤10000)):=Lib.hid (by simp only [properB,h5,hdv,decide_eq_true h1,decide_eq_true h2,decide_eq_true h3,decide_eq_true h4,decide_eq_true h6,Bool.true_and])
        clear hdv
        go_enter Tryz.func87,Tryz.ntmps87
        go_wp2_with (go_at_call 94;refine (HD.out _).mono ?_;rintro e w1 ⟨rfl,rfl⟩)
        go_ret
        rw [HQ.out]
        exact ⟨rfl,(Keeps.refl w).alloc _⟩
       ·have HQ:Hid (properB n x=false):=Lib.hid (by simp only [properB,decide_eq_false h6,Bool.and_false,Bool.false_and])
        clear hdv
        go_enter Tryz.func87,Tryz.ntmps87
        go_wp2_with (go_at_call 94;refine (HD.out _).mono ?_;rintro e w1 ⟨rfl,rfl⟩)
        go_ret
        rw [HQ.out]
        exact ⟨rfl,(Keeps.refl w).alloc _⟩
    ·have HQ:Hid (properB n x=false):=Lib.hid (by simp only [properB,decide_eq_false h4,Bool.and_false,Bool.false_and])
     clear hdv
     go_enter Tryz.func87,Tryz.ntmps87
     go_wp2_with (go_at_call 94;refine (HD.out _).mono ?_;rintro e w1 ⟨rfl,rfl⟩)
     go_ret
     rw [HQ.out]
     exact ⟨rfl,(Keeps.refl w).alloc _⟩
   ·have HQ:Hid (properB n x=false):=Lib.hid (by simp only [properB,decide_eq_false h3,Bool.and_false,Bool.false_and])
    clear hdv
    go_enter Tryz.func87,Tryz.ntmps87
    go_wp2_with (go_at_call 94;refine (HD.out _).mono ?_;rintro e w1 ⟨rfl,rfl⟩)
    go_ret
    rw [HQ.out]
    exact ⟨rfl,(Keeps.refl w).alloc _⟩
  ·have HQ:Hid (properB n x=false):=Lib.hid (by simp only [properB,decide_eq_false h2,Bool.and_false,Bool.false_and])
   clear hdv
   go_enter Tryz.func87,Tryz.ntmps87
   go_wp2_with (go_at_call 94;refine (HD.out _).mono ?_;rintro e w1 ⟨rfl,rfl⟩)
   go_ret
   rw [HQ.out]
   exact ⟨rfl,(Keeps.refl w).alloc _⟩
 ·have HQ:Hid (properB n x=false):=Lib.hid (by simp only [properB,decide_eq_false h1,Bool.false_and])
  clear hdv
  go_enter Tryz.func87,Tryz.ntmps87
  go_wp2_with (go_at_call 94;refine (HD.out _).mono ?_;rintro e w1 ⟨rfl,rfl⟩)
  go_ret
  rw [HQ.out]
  exact ⟨rfl,(Keeps.refl w).alloc _⟩
set_option maxRecDepth 100000 in
theorem rfirst_any (ao:Option Addr) (l:List Hol) (cap b o k:Nat) (w:World) (H:Hols w ao l cap b o) (hk:k < l.length) :
  Calls Tryz.prog 138 #[.slice ao l.length cap,.int .i64 (k:Int)] w fun e w'=>e=.returned (.bool (!(firstsH (l.take k)).contains l[k].holder))∧Keeps w w':=by
 have hcap:=Sl.cap H
 have hle:=Sl.le H
 have hix:=Sl.at H Tryz.underlying32 Tryz.sizeOf101 k hk
 have c0:=H.cell Hol.len k hk 0 _ rfl
 simp only [Nat.add_zero] at c0
 have HH:=Lib.hid H
 clear H
 go_enter Tryz.func138,Tryz.ntmps138
 go_wp2_with fail
 go_loopw [5] (fun vi wr=>∃ j q:Nat,j≤k∧vi=.int .i64 j∧Hid (∀ i (hi:i < l.length),i < j→l[i].holder≠l[k].holder)∧wr=w.drewN q) (fun vi _=>k - (intOf vi).toNat)
 case atStart=>exact ⟨0,0,Nat.zero_le _,rfl,Lib.hid (fun i _ h=>absurd h (Nat.not_lt_zero _)),rfl⟩
 case round=>
  obtain ⟨j,q,hj,rfl,HN,rfl⟩:=hrel
  by_cases hlt:j < k
  ·have hiy:=Sl.at HH.out Tryz.underlying32 Tryz.sizeOf101 j (by omega)
   have d0:=HH.out.cell Hol.len j (by omega) 0 _ rfl
   simp only [Nat.add_zero] at d0
   cases he:((l[j]'(by omega)).holder == l[k].holder) with
   | true=>
    have HQ:Hid ((!(firstsH (l.take k)).contains l[k].holder)=false):=Lib.hid (by
     have:l[k].holder∈firstsH (l.take k):=(firstsH_mem _ _).2 ⟨l[j]'(by omega),by rw [List.mem_take_iff_getElem];exact ⟨j,by omega,rfl⟩,by simpa using he⟩
     simp [this])
    go_wp2_with fail
    go_quiet (fail)
    go_wp2_with fail
    go_ret
    rw [HQ.out]
    exact ⟨rfl,by rw [World.drewN_drewN];exact (Keeps.refl w).drewN _⟩
   | false=>
    have HN2:Hid (∀ i (hi:i < l.length),i < j+1→l[i].holder≠l[k].holder):=Lib.hid (fun i hi h=>by
     rcases Nat.lt_succ_iff_lt_or_eq.1 h with h | rfl
     ·exact HN.out i hi h
     ·simpa using he)
    go_wp2_with fail
    go_quiet (fail)
    go_wp2_with fail
    go_roundw
    case rel=>exact ⟨j+1,_,by omega,by go_num,HN2,rfl⟩
    case measure=>simp [intOf];omega
  ·obtain rfl:j=k:=by omega
   have HQ:Hid ((!(firstsH (l.take j)).contains l[j].holder)=true):=Lib.hid (by
    have:l[j].holder∉firstsH (l.take j):=by
     intro h
     obtain ⟨x,hx,hxe⟩:=(firstsH_mem _ _).1 h
     rw [List.mem_take_iff_getElem] at hx
     obtain ⟨i,hi,rfl⟩:=hx
     exact HN.out i (by omega) (by omega) hxe
    simp [this])
   go_wp2_with fail
   go_ret
   rw [HQ.out]
   exact ⟨rfl,(Keeps.refl w).drewN _⟩
end Go.Proofs.YtoaidbhiciaeaaaGreat

end
section
namespace Go.Proofs.YtoaidbhiciaeaaaGreat
open Go.RowKit
theorem idx12 (k:Nat) (hk:k < 12):∀ w,(Instr.index 154 (.agg #[.int .i64 31,.int .i64 28,.int .i64 31,.int .i64 30,.int .i64 31,.int .i64 30,.int .i64 31,.int .i64 31,.int .i64 30,.int .i64 31,.int .i64 30,.int .i64 31]) (.int .i64 (k:Int))).run Tryz.prog w=.ok (.int .i64 (daysL.getD k 0)) w:=by
 intro w
 have z3:=Tryz.sizeOf3
 have a3:=Tryz.isAgg3
 rcases (show k=0∨k=1∨k=2∨k=3∨k=4∨k=5∨k=6∨k=7∨k=8∨k=9∨k=10∨k=11 by omega) with rfl | rfl | rfl | rfl | rfl | rfl | rfl | rfl | rfl | rfl | rfl | rfl
 all_goals simp [Instr.index,run_underlying Tryz.underlying154,asIntOf,go_sem,part,z3,a3,daysL]
theorem idx12_0 (w:World):(Instr.index 154 (.agg #[.int .i64 31,.int .i64 28,.int .i64 31,.int .i64 30,.int .i64 31,.int .i64 30,.int .i64 31,.int .i64 31,.int .i64 30,.int .i64 31,.int .i64 30,.int .i64 31]) (.int .i64 0)).run Tryz.prog w=.ok (.int .i64 31) w:=idx12 0 (by decide) w
theorem idx12_1 (w:World):(Instr.index 154 (.agg #[.int .i64 31,.int .i64 28,.int .i64 31,.int .i64 30,.int .i64 31,.int .i64 30,.int .i64 31,.int .i64 31,.int .i64 30,.int .i64 31,.int .i64 30,.int .i64 31]) (.int .i64 1)).run Tryz.prog w=.ok (.int .i64 28) w:=idx12 1 (by decide) w
theorem idx12_2 (w:World):(Instr.index 154 (.agg #[.int .i64 31,.int .i64 28,.int .i64 31,.int .i64 30,.int .i64 31,.int .i64 30,.int .i64 31,.int .i64 31,.int .i64 30,.int .i64 31,.int .i64 30,.int .i64 31]) (.int .i64 2)).run Tryz.prog w=.ok (.int .i64 31) w:=idx12 2 (by decide) w
theorem idx12_3 (w:World):(Instr.index 154 (.agg #[.int .i64 31,.int .i64 28,.int .i64 31,.int .i64 30,.int .i64 31,.int .i64 30,.int .i64 31,.int .i64 31,.int .i64 30,.int .i64 31,.int .i64 30,.int .i64 31]) (.int .i64 3)).run Tryz.prog w=.ok (.int .i64 30) w:=idx12 3 (by decide) w
theorem idx12_4 (w:World):(Instr.index 154 (.agg #[.int .i64 31,.int .i64 28,.int .i64 31,.int .i64 30,.int .i64 31,.int .i64 30,.int .i64 31,.int .i64 31,.int .i64 30,.int .i64 31,.int .i64 30,.int .i64 31]) (.int .i64 4)).run Tryz.prog w=.ok (.int .i64 31) w:=idx12 4 (by decide) w
theorem idx12_5 (w:World):(Instr.index 154 (.agg #[.int .i64 31,.int .i64 28,.int .i64 31,.int .i64 30,.int .i64 31,.int .i64 30,.int .i64 31,.int .i64 31,.int .i64 30,.int .i64 31,.int .i64 30,.int .i64 31]) (.int .i64 5)).run Tryz.prog w=.ok (.int .i64 30) w:=idx12 5 (by decide) w
theorem idx12_6 (w:World):(Instr.index 154 (.agg #[.int .i64 31,.int .i64 28,.int .i64 31,.int .i64 30,.int .i64 31,.int .i64 30,.int .i64 31,.int .i64 31,.int .i64 30,.int .i64 31,.int .i64 30,.int .i64 31]) (.int .i64 6)).run Tryz.prog w=.ok (.int .i64 31) w:=idx12 6 (by decide) w
theorem idx12_7 (w:World):(Instr.index 154 (.agg #[.int .i64 31,.int .i64 28,.int .i64 31,.int .i64 30,.int .i64 31,.int .i64 30,.int .i64 31,.int .i64 31,.int .i64 30,.int .i64 31,.int .i64 30,.int .i64 31]) (.int .i64 7)).run Tryz.prog w=.ok (.int .i64 31) w:=idx12 7 (by decide) w
theorem idx12_8 (w:World):(Instr.index 154 (.agg #[.int .i64 31,.int .i64 28,.int .i64 31,.int .i64 30,.int .i64 31,.int .i64 30,.int .i64 31,.int .i64 31,.int .i64 30,.int .i64 31,.int .i64 30,.int .i64 31]) (.int .i64 8)).run Tryz.prog w=.ok (.int .i64 30) w:=idx12 8 (by decide) w
theorem idx12_9 (w:World):(Instr.index 154 (.agg #[.int .i64 31,.int .i64 28,.int .i64 31,.int .i64 30,.int .i64 31,.int .i64 30,.int .i64 31,.int .i64 31,.int .i64 30,.int .i64 31,.int .i64 30,.int .i64 31]) (.int .i64 9)).run Tryz.prog w=.ok (.int .i64 31) w:=idx12 9 (by decide) w
theorem idx12_10 (w:World):(Instr.index 154 (.agg #[.int .i64 31,.int .i64 28,.int .i64 31,.int .i64 30,.int .i64 31,.int .i64 30,.int .i64 31,.int .i64 31,.int .i64 30,.int .i64 31,.int .i64 30,.int .i64 31]) (.int .i64 10)).run Tryz.prog w=.ok (.int .i64 30) w:=idx12 10 (by decide) w
theorem idx12_11 (w:World):(Instr.index 154 (.agg #[.int .i64 31,.int .i64 28,.int .i64 31,.int .i64 30,.int .i64 31,.int .i64 30,.int .i64 31,.int .i64 31,.int .i64 30,.int .i64 31,.int .i64 30,.int .i64 31]) (.int .i64 11)).run Tryz.prog w=.ok (.int .i64 31) w:=idx12 11 (by decide) w
set_option maxRecDepth 100000 in
theorem leapP_any (y:Int) (w:World):Calls Tryz.prog 114 #[.int .i64 y] w fun e w'=>e=.returned (.bool (leapF y))∧w=w':=by
 obtain ⟨a,ha⟩:∃ a,(y.tmod 4 == 0)=a:=⟨_,rfl⟩
 obtain ⟨b,hb⟩:∃ b,(y.tmod 100 != 0)=b:=⟨_,rfl⟩
 obtain ⟨c,hc⟩:∃ c,(y.tmod 400 == 0)=c:=⟨_,rfl⟩
 have HL:Hid (leapF y=(a && (b || c))):=Lib.hid (by rw [← ha,← hb,← hc];rfl)
 cases a with
 | false=>
  go_enter Tryz.func114,Tryz.ntmps114
  go_wp2_with fail
  go_ret
  exact ⟨by rw [HL.out];rfl,rfl⟩
 | true=>
  cases b with
  | true=>
   go_enter Tryz.func114,Tryz.ntmps114
   go_wp2_with fail
   go_ret
   exact ⟨by rw [HL.out];rfl,rfl⟩
  | false=>
   go_enter Tryz.func114,Tryz.ntmps114
   go_wp2_with fail
   go_ret
   exact ⟨by rw [HL.out];rfl,rfl⟩
set_option maxRecDepth 100000 in
theorem leapR_any (y:Int) (w:World):Calls Tryz.prog 95 #[.int .i64 y] w fun e w'=>e=.returned (.bool (leapF y))∧w=w':=by
 obtain ⟨a,ha⟩:∃ a,(y.tmod 4 == 0)=a:=⟨_,rfl⟩
 obtain ⟨b,hb⟩:∃ b,(y.tmod 100 != 0)=b:=⟨_,rfl⟩
 obtain ⟨c,hc⟩:∃ c,(y.tmod 400 == 0)=c:=⟨_,rfl⟩
 have HL:Hid (leapF y=(a && (b || c))):=Lib.hid (by rw [← ha,← hb,← hc];rfl)
 cases a with
 | false=>
  go_enter Tryz.func95,Tryz.ntmps95
  go_wp2_with fail
  go_ret
  exact ⟨by rw [HL.out];rfl,rfl⟩
 | true=>
  cases b with
  | true=>
   go_enter Tryz.func95,Tryz.ntmps95
   go_wp2_with fail
   go_ret
   exact ⟨by rw [HL.out];rfl,rfl⟩
  | false=>
   go_enter Tryz.func95,Tryz.ntmps95
   go_wp2_with fail
   go_ret
   exact ⟨by rw [HL.out];rfl,rfl⟩
theorem days_lit {y m:Int} (h1:1900≤y) (h2:y≤2199) (h3:1≤m) (h4:m≤12) (h5:m≠2):dmF y m=daysL.getD (m - 1).toNat 0:=by
 unfold dmF
 rw [if_neg (by omega),if_neg (by simp [h5])]
set_option maxRecDepth 100000 in
theorem daysP_any (y m:Int) (w:World):Calls Tryz.prog 73 #[.int .i64 y,.int .i64 m] w fun e w'=>e=.returned (.int .i64 (dmF y m))∧Keeps w w':=by
 by_cases h1:y < 1900
 ·have HD:=Lib.hid (dmF_zero (y:=y) (m:=m) (by omega))
  obtain ⟨b,hb⟩:∃ b,decide (m < 1)=b:=⟨_,rfl⟩
  obtain ⟨c,hc⟩:∃ c,decide (12 < m)=c:=⟨_,rfl⟩
  have e1:decide (y < 1900)=true:=decide_eq_true h1
  clear h1
  cases b <;> cases c <;> (go_enter Tryz.func73,Tryz.ntmps73;go_wp2_with fail;go_ret;exact ⟨by rw [HD.out];rfl,Keeps.refl w⟩)
 ·have e1:decide (y < 1900)=false:=decide_eq_false h1
  by_cases h2:2199 < y
  ·have HD:=Lib.hid (dmF_zero (y:=y) (m:=m) (by omega))
   obtain ⟨b,hb⟩:∃ b,decide (m < 1)=b:=⟨_,rfl⟩
   obtain ⟨c,hc⟩:∃ c,decide (12 < m)=c:=⟨_,rfl⟩
   have e2:decide (2199 < y)=true:=decide_eq_true h2
   clear h1 h2
   cases b <;> cases c <;> (go_enter Tryz.func73,Tryz.ntmps73;go_wp2_with fail;go_ret;exact ⟨by rw [HD.out];rfl,Keeps.refl w⟩)
  ·have e2:decide (2199 < y)=false:=decide_eq_false h2
   by_cases h3:m < 1
   ·have HD:=Lib.hid (dmF_zero (y:=y) (m:=m) (by omega))
    have e3:decide (m < 1)=true:=decide_eq_true h3
    clear h1 h2 h3
    go_enter Tryz.func73,Tryz.ntmps73
    go_wp2_with fail
    go_ret
    exact ⟨by rw [HD.out];rfl,Keeps.refl w⟩
   ·have e3:decide (m < 1)=false:=decide_eq_false h3
    by_cases h4:12 < m
    ·have HD:=Lib.hid (dmF_zero (y:=y) (m:=m) (by omega))
     have e4:decide (12 < m)=true:=decide_eq_true h4
     clear h1 h2 h3 h4
     go_enter Tryz.func73,Tryz.ntmps73
     go_wp2_with fail
     go_ret
     exact ⟨by rw [HD.out];rfl,Keeps.refl w⟩
    ·have ix0:=idx12_0;have ix1:=idx12_1;have ix2:=idx12_2;have ix3:=idx12_3;have ix4:=idx12_4;have ix5:=idx12_5;have ix6:=idx12_6;have ix7:=idx12_7;have ix8:=idx12_8;have ix9:=idx12_9;have ix10:=idx12_10;have ix11:=idx12_11
     obtain ⟨q,hq⟩:∃ q,leapF y=q:=⟨_,rfl⟩
     have HLP:Hid (∀ W,Calls Tryz.prog 114 #[.int .i64 y] W fun e w'=>e=.returned (.bool q)∧W=w'):=Lib.hid (fun W=>by rw [← hq];exact leapP_any y W)
     rcases (show m=1∨m=2∨m=3∨m=4∨m=5∨m=6∨m=7∨m=8∨m=9∨m=10∨m=11∨m=12 by omega) with rfl | rfl | rfl | rfl | rfl | rfl | rfl | rfl | rfl | rfl | rfl | rfl
     case inr.inl=>
      cases q with
      | true=>
       have HD:Hid (dmF y 2=29):=Lib.hid (by unfold dmF;rw [if_neg (by omega),hq];rfl)
       clear h1 h2 h3 h4 hq e3
       go_enter Tryz.func73,Tryz.ntmps73
       go_wp2_with (go_at_call 114;refine (HLP.out _).mono ?_;rintro e w2 ⟨rfl,rfl⟩)
       go_ret
       exact ⟨by rw [HD.out];rfl,by first | exact Keeps.refl w | exact (Keeps.refl w).alloc _⟩
      | false=>
       have HD:Hid (dmF y 2=28):=Lib.hid (by unfold dmF;rw [if_neg (by omega),hq];rfl)
       clear h1 h2 h3 h4 hq e3
       go_enter Tryz.func73,Tryz.ntmps73
       go_wp2_with (go_at_call 114;refine (HLP.out _).mono ?_;rintro e w2 ⟨rfl,rfl⟩)
       go_ret
       exact ⟨by rw [HD.out];rfl,by first | exact Keeps.refl w | exact (Keeps.refl w).alloc _⟩
     all_goals
      have HY:Hid (1900≤y∧y≤2199):=Lib.hid ⟨by omega,by omega⟩
      clear h1 h2 h3 h4 hq e3 HLP
      go_enter Tryz.func73,Tryz.ntmps73
      go_wp2_with fail
      go_ret
      have hy:=HY.out
      refine ⟨?_,by first | exact Keeps.refl w | exact (Keeps.refl w).alloc _⟩
      rw [days_lit (y:=y)]
      all_goals first | rfl | omega
set_option maxRecDepth 100000 in
theorem daysR_any (y m:Int) (w:World):Calls Tryz.prog 58 #[.int .i64 y,.int .i64 m] w fun e w'=>e=.returned (.int .i64 (dmF y m))∧Keeps w w':=by
 by_cases h1:y < 1900
 ·have HD:=Lib.hid (dmF_zero (y:=y) (m:=m) (by omega))
  obtain ⟨b,hb⟩:∃ b,decide (m < 1)=b:=⟨_,rfl⟩
  obtain ⟨c,hc⟩:∃ c,decide (12 < m)=c:=⟨_,rfl⟩
  have e1:decide (y < 1900)=true:=decide_eq_true h1
  clear h1
  cases b <;> cases c <;> (go_enter Tryz.func58,Tryz.ntmps58;go_wp2_with fail;go_ret;exact ⟨by rw [HD.out];rfl,Keeps.refl w⟩)
 ·have e1:decide (y < 1900)=false:=decide_eq_false h1
  by_cases h2:2199 < y
  ·have HD:=Lib.hid (dmF_zero (y:=y) (m:=m) (by omega))
   obtain ⟨b,hb⟩:∃ b,decide (m < 1)=b:=⟨_,rfl⟩
   obtain ⟨c,hc⟩:∃ c,decide (12 < m)=c:=⟨_,rfl⟩
   have e2:decide (2199 < y)=true:=decide_eq_true h2
   clear h1 h2
   cases b <;> cases c <;> (go_enter Tryz.func58,Tryz.ntmps58;go_wp2_with fail;go_ret;exact ⟨by rw [HD.out];rfl,Keeps.refl w⟩)
  ·have e2:decide (2199 < y)=false:=decide_eq_false h2
   by_cases h3:m < 1
   ·have HD:=Lib.hid (dmF_zero (y:=y) (m:=m) (by omega))
    have e3:decide (m < 1)=true:=decide_eq_true h3
    clear h1 h2 h3
    go_enter Tryz.func58,Tryz.ntmps58
    go_wp2_with fail
    go_ret
    exact ⟨by rw [HD.out];rfl,Keeps.refl w⟩
   ·have e3:decide (m < 1)=false:=decide_eq_false h3
    by_cases h4:12 < m
    ·have HD:=Lib.hid (dmF_zero (y:=y) (m:=m) (by omega))
     have e4:decide (12 < m)=true:=decide_eq_true h4
     clear h1 h2 h3 h4
     go_enter Tryz.func58,Tryz.ntmps58
     go_wp2_with fail
     go_ret
     exact ⟨by rw [HD.out];rfl,Keeps.refl w⟩
    ·have ix0:=idx12_0;have ix1:=idx12_1;have ix2:=idx12_2;have ix3:=idx12_3;have ix4:=idx12_4;have ix5:=idx12_5;have ix6:=idx12_6;have ix7:=idx12_7;have ix8:=idx12_8;have ix9:=idx12_9;have ix10:=idx12_10;have ix11:=idx12_11
     obtain ⟨q,hq⟩:∃ q,leapF y=q:=⟨_,rfl⟩
     have HLP:Hid (∀ W,Calls Tryz.prog 95 #[.int .i64 y] W fun e w'=>e=.returned (.bool q)∧W=w'):=Lib.hid (fun W=>by rw [← hq];exact leapR_any y W)
     rcases (show m=1∨m=2∨m=3∨m=4∨m=5∨m=6∨m=7∨m=8∨m=9∨m=10∨m=11∨m=12 by omega) with rfl | rfl | rfl | rfl | rfl | rfl | rfl | rfl | rfl | rfl | rfl | rfl
     case inr.inl=>
      cases q with
      | true=>
       have HD:Hid (dmF y 2=29):=Lib.hid (by unfold dmF;rw [if_neg (by omega),hq];rfl)
       clear h1 h2 h3 h4 hq e3
       go_enter Tryz.func58,Tryz.ntmps58
       go_wp2_with (go_at_call 95;refine (HLP.out _).mono ?_;rintro e w2 ⟨rfl,rfl⟩)
       go_ret
       exact ⟨by rw [HD.out];rfl,by first | exact Keeps.refl w | exact (Keeps.refl w).alloc _⟩
      | false=>
       have HD:Hid (dmF y 2=28):=Lib.hid (by unfold dmF;rw [if_neg (by omega),hq];rfl)
       clear h1 h2 h3 h4 hq e3
       go_enter Tryz.func58,Tryz.ntmps58
       go_wp2_with (go_at_call 95;refine (HLP.out _).mono ?_;rintro e w2 ⟨rfl,rfl⟩)
       go_ret
       exact ⟨by rw [HD.out];rfl,by first | exact Keeps.refl w | exact (Keeps.refl w).alloc _⟩
     all_goals
      have HY:Hid (1900≤y∧y≤2199):=Lib.hid ⟨by omega,by omega⟩
      clear h1 h2 h3 h4 hq e3 HLP
      go_enter Tryz.func58,Tryz.ntmps58
      go_wp2_with fail
      go_ret
      have hy:=HY.out
      refine ⟨?_,by first | exact Keeps.refl w | exact (Keeps.refl w).alloc _⟩
      rw [days_lit (y:=y)]
      all_goals first | rfl | omega
end Go.Proofs.YtoaidbhiciaeaaaGreat

end
section
namespace Go.Proofs.YtoaidbhiciaeaaaGreat
open Go.RowKit
theorem results_tmp4 {fn:Func} {t u v x:Tmp} (h:fn.results=#[.tmp t,.tmp u,.tmp v,.tmp x]) (tmps:Array Value) (P:Program) (w:World) :
  (results fn tmps).run P w=.ok (.tuple #[tmps.getD t undef,tmps.getD u undef,tmps.getD v undef,tmps.getD x undef]) w:=by
 simp [results,h,go_sem]
theorem begP_any (y:Int) (h1:1800≤y) (h2:y≤2300) (w:World):Calls Tryz.prog 113 #[.int .i64 y] w fun e w'=>e=.returned (.int .i64 (begF y))∧w=w':=by
 obtain ⟨a,ha⟩:∃ a,(y - 1).tdiv 4=a:=⟨_,rfl⟩
 obtain ⟨b,hb⟩:∃ b,(y - 1).tdiv 100=b:=⟨_,rfl⟩
 obtain ⟨c,hc⟩:∃ c,(y - 1).tdiv 400=c:=⟨_,rfl⟩
 have ha2:=ha
 have hb2:=hb
 have hc2:=hc
 rw [Int.tdiv_eq_ediv_of_nonneg (by omega)] at ha2 hb2 hc2
 have a1:0≤a∧a≤1000:=by omega
 have b1:0≤b∧b≤1000:=by omega
 have c1:0≤c∧c≤1000:=by omega
 have HB:Hid (begF y=365 * (y - 1)+a - b+c - 719162):=Lib.hid (by unfold begF;rw [ha,hb,hc])
 clear ha2 hb2 hc2
 go_enter Tryz.func113,Tryz.ntmps113
 go_wp2_with fail
 go_ret
 exact ⟨congrArg (fun x=>Ending.returned (Value.int .i64 x)) (by rw [HB.out]),rfl⟩
theorem beg_bd {y:Int} (h1:1900≤y) (h2:y≤2199):-25567≤begF y∧begF y≤84005:=by
 have h:=month_ok h1 h2 (show 0 < 12 by omega)
 have e:mofF y 0=0:=rfl
 have a:=h.min
 have b:=h.max
 rw [e] at a b
 omega
set_option maxRecDepth 100000 in
theorem ofP_any (y m:Int) (w:World):Calls Tryz.prog 115 #[.int .i64 y,.int .i64 m,.int .i64 1] w fun e w'=>e=.returned (.tuple #[.int .i64 (ofF y m 1).1,.int .i64 (ofF y m 1).2])∧Keeps w w':=by
 by_cases hv:1900≤y∧y≤2199∧1≤m∧m≤12
 ·obtain ⟨h1,h2,h3,h4⟩:=hv
  have HO:=Lib.hid (ofF_one h1 h2 h3 h4)
  obtain ⟨j,rfl⟩:∃ j:Nat,m=(j:Int)+1:=⟨(m - 1).toNat,by omega⟩
  have hj:j < 12:=by omega
  rw [show ((j:Int)+1 - 1).toNat=j from by omega] at HO
  have hM:=month_ok h1 h2 hj
  obtain ⟨D,hD⟩:∃ D,dmF y ((j:Int)+1)=D:=⟨_,rfl⟩
  have hD28:28≤D:=by rw [← hD];exact hM.d28
  have e1:decide (D < 1)=false:=decide_eq_false (by omega)
  have HD:Hid (∀ W,Calls Tryz.prog 73 #[.int .i64 y,.int .i64 ((j:Int)+1)] W fun e w'=>e=.returned (.int .i64 D)∧Keeps W w'):=Lib.hid (fun W=>by rw [← hD];exact daysP_any _ _ W)
  obtain ⟨B,hB⟩:∃ B,begF y=B:=⟨_,rfl⟩
  have hbd:=beg_bd h1 h2
  rw [hB] at hbd HO
  have HBG:Hid (∀ W,Calls Tryz.prog 113 #[.int .i64 y] W fun e w'=>e=.returned (.int .i64 B)∧W=w'):=Lib.hid (fun W=>by rw [← hB];exact begP_any y (by omega) (by omega) W)
  have HMK:Hid (∀ i,i < 12→MonthOk y i):=Lib.hid (fun i hi=>month_ok h1 h2 hi)
  clear hM hD hB h1 h2
  go_enter Tryz.func115,Tryz.ntmps115
  go_wp2_with (first | (go_at_call 73;refine (HD.out _).mono ?_;rintro e w1 ⟨rfl,hk1⟩) | (go_at_call 113;refine (HBG.out _).mono ?_;rintro e w2 ⟨rfl,rfl⟩))
  go_loopw [8,9] (fun vn vk wr=>∃ k:Nat,k≤j∧vk=.int .i64 ((k:Int)+1)∧vn=.int .i64 (B+mofF y k)∧Hid (Keeps w wr)) (fun _ vk _=>j+1 - (intOf vk).toNat)
  case atStart=>exact ⟨0,Nat.zero_le _,rfl,congrArg (Value.int .i64) (by show _=B+0;omega),Lib.hid hk1⟩
  case round=>
   obtain ⟨k,hk,rfl,rfl,HW⟩:=hrel
   by_cases hlt:k < j
   ·have hM:=HMK.out k (by omega)
    obtain ⟨M,hMq⟩:∃ M,mofF y k=M:=⟨_,rfl⟩
    obtain ⟨E,hE⟩:∃ E,dmF y ((k:Int)+1)=E:=⟨_,rfl⟩
    have m0:=hM.m0
    have m1:=hM.m1
    have d1:=hM.d28
    have d2:=hM.d31
    rw [hMq] at m0 m1
    rw [show (((k+1:Nat):Int))=(k:Int)+1 from by omega,hE] at d1 d2
    have HDE:Hid (∀ W,Calls Tryz.prog 73 #[.int .i64 y,.int .i64 ((k:Int)+1)] W fun e w'=>e=.returned (.int .i64 E)∧Keeps W w'):=Lib.hid (fun W=>by rw [← hE];exact daysP_any _ _ W)
    have HME:Hid (mofF y (k+1)=M+E):=Lib.hid (by rw [← hMq,← hE];rfl)
    have e2:decide ((k:Int)+1 < (j:Int)+1)=true:=decide_eq_true (by omega)
    have e3:decide (k < j)=true:=decide_eq_true hlt
    rw [hMq]
    clear hM hMq hE
    go_wp2_with (go_at_call 73;refine (HDE.out _).mono ?_;rintro e w3 ⟨rfl,hk3⟩)
    go_roundw
    case rel=>exact ⟨k+1,by omega,congrArg (Value.int .i64) (by omega),congrArg (Value.int .i64) (by rw [HME.out];omega),Lib.hid (HW.out.trans hk3)⟩
    case measure=>simp [intOf];omega
   ·obtain rfl:k=j:=by omega
    have e2:decide ((k:Int)+1 < (k:Int)+1)=false:=decide_eq_false (by omega)
    go_wp2_with fail
    go_ret2
    exact ⟨by rw [HO.out];rfl,HW.out⟩
 ·have h0:dmF y m=0:=dmF_zero (by omega)
  have HO:=Lib.hid (ofF_bad (y:=y) (m:=m) (by omega))
  have HD:Hid (∀ W,Calls Tryz.prog 73 #[.int .i64 y,.int .i64 m] W fun e w'=>e=.returned (.int .i64 0)∧Keeps W w'):=Lib.hid (fun W=>by rw [← h0];exact daysP_any _ _ W)
  clear h0 hv
  go_enter Tryz.func115,Tryz.ntmps115
  go_wp2_with (go_at_call 73;refine (HD.out _).mono ?_;rintro e w1 ⟨rfl,hk1⟩)
  go_ret2
  exact ⟨by rw [HO.out];rfl,hk1⟩
set_option maxRecDepth 100000 in
theorem civP_any (y:Int) (j:Nat) (h1:1900≤y) (h2:y≤2199) (hj:j < 12) (w:World):Calls Tryz.prog 72 #[.int .i64 (begF y+mofF y j)] w fun e w'=>e=.returned (.tuple #[.int .i64 y,.int .i64 ((j:Int)+1),.int .i64 1,.int .i64 0])∧Keeps w w':=by
 have hM:=month_ok h1 h2 hj
 obtain ⟨d,hd⟩:∃ d,begF y+mofF y j=d:=⟨_,rfl⟩
 have hmin:=hM.min
 have hmax:=hM.max
 have hfr:=hM.from_
 have hlo:=hM.low
 have hlt:=hM.lt
 rw [hd] at hmin hmax hfr hlo hlt
 obtain ⟨t,ht⟩:∃ t,d.tdiv 366=t:=⟨_,rfl⟩
 rw [ht] at hfr hlo
 have HV:Hid (∀ W,Calls Tryz.prog 109 #[.int .i64 d] W fun e w'=>e=.returned (.bool true)∧W=w'):=Lib.hid (fun W=>by
  have:=hdate_any d W
  rw [show dateB d=true from by unfold dateB;simp;omega] at this
  exact this)
 have HBG:Hid (∀ c W,1800≤c→c≤2300→Calls Tryz.prog 113 #[.int .i64 c] W fun e w'=>e=.returned (.int .i64 (begF c))∧W=w'):=Lib.hid (fun c W a b=>begP_any c a b W)
 have HDY:Hid (∀ m W,Calls Tryz.prog 73 #[.int .i64 y,.int .i64 m] W fun e w'=>e=.returned (.int .i64 (dmF y m))∧Keeps W w'):=Lib.hid (fun m W=>daysP_any y m W)
 have HDJ:Hid (d - begF y=mofF y j):=Lib.hid (by omega)
 have hmj1:=hM.m0
 have hmj2:=hM.m1
 have hbb:=beg_bd h1 h2
 clear hM hd
 rw [show begF y+mofF y j=d from by have:=HDJ.out;omega]
 go_enter Tryz.func72,Tryz.ntmps72
 go_wp2_with (go_at_call 109;refine (HV.out _).mono ?_;rintro e w1 ⟨rfl,rfl⟩)
 go_loopw [2] (fun vy wr=>∃ c:Int,1899≤c∧c≤y∧vy=.int .i64 c∧wr=w) (fun vy _=>(y - intOf vy).toNat)
 case atStart=>exact ⟨1970+t - 2,by omega,by omega,congrArg (Value.int .i64) (by omega),rfl⟩
 case round=>
  obtain ⟨c,hc1,hc2,rfl,rfl⟩:=hrel
  by_cases hlt2:c < y
  ·by_cases hc0:c < 1900
   ·have e1:decide (c < 1900)=true:=decide_eq_true hc0
    go_wp2_with fail
    go_roundw
    case rel=>exact ⟨c+1,by omega,by omega,congrArg (Value.int .i64) (by omega),by first | rfl | trivial⟩
    case measure=>simp [intOf];omega
   ·have e1:decide (c < 1900)=false:=decide_eq_false hc0
    obtain ⟨b,hb⟩:∃ b,begF (c+1)=b:=⟨_,rfl⟩
    have hle:=beg_le (a:=c+1) (b:=y) (by omega) (by omega) (by omega)
    have e2:decide (b≤d)=true:=decide_eq_true (by rw [← hb];have:=HDJ.out;omega)
    have HB2:Hid (∀ W,Calls Tryz.prog 113 #[.int .i64 (c+1)] W fun e w'=>e=.returned (.int .i64 b)∧W=w'):=Lib.hid (fun W=>by rw [← hb];exact HBG.out _ W (by omega) (by omega))
    clear hb hle
    go_wp2_with (go_at_call 113;refine (HB2.out _).mono ?_;rintro e w2 ⟨rfl,rfl⟩)
    go_roundw
    case rel=>exact ⟨c+1,by omega,by omega,congrArg (Value.int .i64) (by omega),by first | rfl | trivial⟩
    case measure=>simp [intOf];omega
  ·obtain rfl:c=y:=by omega
   have e1:decide (c < 1900)=false:=decide_eq_false (by omega)
   obtain ⟨b,hb⟩:∃ b,begF (c+1)=b:=⟨_,rfl⟩
   rw [hb] at hlt
   have e2:decide (b≤d)=false:=decide_eq_false (by omega)
   have HB2:Hid (∀ W,Calls Tryz.prog 113 #[.int .i64 (c+1)] W fun e w'=>e=.returned (.int .i64 b)∧W=w'):=Lib.hid (fun W=>by rw [← hb];exact HBG.out _ W (by omega) (by omega))
   obtain ⟨q,hq⟩:∃ q,begF c=q:=⟨_,rfl⟩
   have HB3:Hid (∀ W,Calls Tryz.prog 113 #[.int .i64 c] W fun e w'=>e=.returned (.int .i64 q)∧W=w'):=Lib.hid (fun W=>by rw [← hq];exact HBG.out _ W (by omega) (by omega))
   rw [hq] at HDJ hbb
   have HMK:Hid (∀ i,i < 12→MonthOk c i):=Lib.hid (fun i hi=>month_ok h1 h2 hi)
   have HMM:Hid (∀ i,i < j→mofF c i+dmF c ((i:Int)+1)≤mofF c j):=Lib.hid (fun i hi=>mof_mono h1 h2 hi hj)
   obtain ⟨X,hX⟩:∃ X,d - q=X:=⟨_,rfl⟩
   have HXJ:Hid (X=mofF c j):=Lib.hid (by rw [← hX];exact HDJ.out)
   have hX0:0≤X∧X≤366:=by rw [HXJ.out];exact ⟨hmj1,hmj2⟩
   clear hb hq
   go_wp2_with (first | (go_at_call 113;first | (guard_hyp hz:_;refine (HB3.out _).mono ?_;rintro e w3 ⟨rfl,rfl⟩) | (refine (HB2.out _).mono ?_;rintro e w2 ⟨rfl,rfl⟩;have hz:True:=trivial)))
   obtain ⟨wo,rfl⟩:∃ wo:World,wo=wr:=⟨_,rfl⟩
   go_loopw [4,3] (fun vd vm wr=>∃ i:Nat,i≤j∧vm=.int .i64 ((i:Int)+1)∧vd=.int .i64 (X - mofF c i)∧Hid (Keeps wo wr)) (fun _ vm _=>j+1 - (intOf vm).toNat)
   case atStart=>exact ⟨0,Nat.zero_le _,rfl,congrArg (Value.int .i64) (by show _=X - 0;omega),Lib.hid (Keeps.refl _)⟩
   case round=>
    obtain ⟨i,hi,rfl,rfl,HW⟩:=hrel
    have hM:=HMK.out i (by omega)
    obtain ⟨M,hMq⟩:∃ M,mofF c i=M:=⟨_,rfl⟩
    obtain ⟨E,hE⟩:∃ E,dmF c ((i:Int)+1)=E:=⟨_,rfl⟩
    have m0:=hM.m0
    have m1:=hM.m1
    have d1:=hM.d28
    have d2:=hM.d31
    rw [hMq] at m0 m1
    rw [show (((i+1:Nat):Int))=(i:Int)+1 from by omega,hE] at d1 d2
    have HDE:Hid (∀ W,Calls Tryz.prog 73 #[.int .i64 c,.int .i64 ((i:Int)+1)] W fun e w'=>e=.returned (.int .i64 E)∧Keeps W w'):=Lib.hid (fun W=>by rw [← hE];exact HDY.out _ W)
    have HME:Hid (mofF c (i+1)=M+E):=Lib.hid (by rw [← hMq,← hE];rfl)
    by_cases hij:i < j
    ·have hmm:=HMM.out i hij
     rw [hMq,hE,← HXJ.out] at hmm
     have e3:decide (E≤X - M)=true:=decide_eq_true (by omega)
     rw [hMq]
     clear hM hMq hE
     go_wp2_with (go_at_call 73;first | (guard_hyp hk4:_;refine (HDE.out _).mono ?_;rintro e w5 ⟨rfl,hk5⟩) | (refine (HDE.out _).mono ?_;rintro e w4 ⟨rfl,hk4⟩))
     go_roundw
     case rel=>exact ⟨i+1,by omega,congrArg (Value.int .i64) (by omega),congrArg (Value.int .i64) (by rw [HME.out];omega),Lib.hid ((HW.out.trans hk4).trans hk5)⟩
     case measure=>simp [intOf];omega
    ·obtain rfl:i=j:=by omega
     have hx0:=HXJ.out
     rw [hMq] at hx0
     subst hx0
     have e3:decide (E≤X - X)=false:=decide_eq_false (by omega)
     have e4:decide (E≤0)=false:=decide_eq_false (by omega)
     rw [hMq]
     clear hM hMq hE
     go_wp2_with (go_at_call 73;refine (HDE.out _).mono ?_;rintro e w4 ⟨rfl,hk4⟩)
     refine bodyPost_ret (results_tmp4 rfl _ _ _) rfl ?_
     exact ⟨by simp,HW.out.trans hk4⟩
end Go.Proofs.YtoaidbhiciaeaaaGreat

end
