/- Walks and plain facts that the claim rests on (StrW, Find, ChartP). No condition. -/
import Derived.Test.YtoaidbhiciaeaaaGreatPo05
import Derived.Test.YtoaidbhiciaeaaaGreatPo01
import Derived.Test.YtoaidbhiciaeaaaGreatProg
import Derived.Deep.QuietTactic
import Derived.BigQuiet
import Derived.Outline
set_option linter.unusedSimpArgs false
set_option linter.unusedVariables false
set_option maxHeartbeats 16000000
section
namespace Go.Proofs.YtoaidbhiciaeaaaGreat
open Go.RowKit
def letB (v:Int):Bool:=(decide (97≤v) && decide (v≤122)) || (decide (65≤v) && decide (v≤90))
theorem letP_any (v:Int) (w:World):Calls Tryz.prog 146 #[.int .u8 v] w fun e w'=>e=.returned (.bool (letB v))∧w=w':=by
 obtain ⟨a,ha⟩:∃ a,decide (97≤v)=a:=⟨_,rfl⟩
 obtain ⟨b,hb⟩:∃ b,decide (v≤122)=b:=⟨_,rfl⟩
 obtain ⟨c,hc⟩:∃ c,decide (65≤v)=c:=⟨_,rfl⟩
 obtain ⟨d,hd⟩:∃ d,decide (v≤90)=d:=⟨_,rfl⟩
 have HL:Hid (letB v=((a && b) || (c && d))):=Lib.hid (by rw [← ha,← hb,← hc,← hd];rfl)
 cases a <;> cases b <;> cases c <;> cases d <;> (go_enter Tryz.func146,Tryz.ntmps146;go_wp2_with fail;go_ret;exact ⟨by rw [HL.out];rfl,rfl⟩)
theorem letR_any (v:Int) (w:World):Calls Tryz.prog 170 #[.int .u8 v] w fun e w'=>e=.returned (.bool (letB v))∧w=w':=by
 obtain ⟨a,ha⟩:∃ a,decide (97≤v)=a:=⟨_,rfl⟩
 obtain ⟨b,hb⟩:∃ b,decide (v≤122)=b:=⟨_,rfl⟩
 obtain ⟨c,hc⟩:∃ c,decide (65≤v)=c:=⟨_,rfl⟩
 obtain ⟨d,hd⟩:∃ d,decide (v≤90)=d:=⟨_,rfl⟩
 have HL:Hid (letB v=((a && b) || (c && d))):=Lib.hid (by rw [← ha,← hb,← hc,← hd];rfl)
 cases a <;> cases b <;> cases c <;> cases d <;> (go_enter Tryz.func170,Tryz.ntmps170;go_wp2_with fail;go_ret;exact ⟨by rw [HL.out];rfl,rfl⟩)
def capB (v:Int):Bool:=!(decide (v < 65) || decide (90 < v))
def curB (s:ByteArray):Bool:=(List.range s.size).all (fun i=>capB ((s.get! i).toNat:Int)) && decide (s.size=3)
theorem get!_lt {s:ByteArray} {k:Nat} (h:k < s.size):s.get! k=s[k]:=by
 cases s with
 | mk bs=>exact getElem!_pos bs k h
theorem allr_false {n k:Nat} {p:Nat→Bool} (h:k < n) (hp:p k=false):(List.range n).all p=false:=by
 rw [List.all_eq_false]
 exact ⟨k,List.mem_range.2 h,by rw [hp];simp⟩
theorem allr_true {n:Nat} {p:Nat→Bool} (h:∀ k,k < n→p k=true):(List.range n).all p=true:=by
 rw [List.all_eq_true]
 exact fun k hk=>h k (List.mem_range.1 hk)
theorem curP_any (s:ByteArray) (hs:s.size≤maxLen) (w:World):Calls Tryz.prog 62 #[.string s] w fun e w'=>e=.returned (.bool (curB s))∧w=w':=by
 unfold maxLen at hs
 go_enter Tryz.func62,Tryz.ntmps62
 go_wp2_with fail
 go_loop [6] (fun i=>∃ k:Nat,k≤s.size∧i=.int .i64 k∧Hid (∀ j,j < k→capB ((s.get! j).toNat:Int)=true)) (fun i=>s.size - (intOf i).toNat)
 case atStart=>exact ⟨0,Nat.zero_le _,rfl,Lib.hid (fun j hj=>absurd hj (Nat.not_lt_zero j))⟩
 case round=>
  obtain ⟨k,hk,rfl,HA⟩:=hrel
  by_cases hlt:k < s.size
  ·obtain ⟨v,hv⟩:∃ v,((s[k].toNat:Nat):Int)=v:=⟨_,rfl⟩
   have HC:Hid (((s.get! k).toNat:Int)=v):=Lib.hid (by rw [get!_lt hlt];exact hv)
   obtain ⟨a,ha⟩:∃ a,decide (v < 65)=a:=⟨_,rfl⟩
   obtain ⟨b,hb⟩:∃ b,decide (90 < v)=b:=⟨_,rfl⟩
   have HP:Hid (capB ((s.get! k).toNat:Int)=!(a || b)):=Lib.hid (by rw [HC.out,← ha,← hb];rfl)
   cases a with
   | true=>
    go_wp2_with fail
    go_ret
    exact ⟨by unfold curB;rw [allr_false hlt (HP.out.trans rfl)];rfl,rfl⟩
   | false=>
    cases b with
    | true=>
     go_wp2_with fail
     go_ret
     exact ⟨by unfold curB;rw [allr_false hlt (HP.out.trans rfl)];rfl,rfl⟩
    | false=>
     go_wp2_with fail
     go_round
     case rel=>exact ⟨k+1,by omega,by go_num,Lib.hid (fun j hj=>by
      by_cases h:j < k
      ·exact HA.out j h
      ·rw [show j=k from by omega];exact HP.out.trans rfl)⟩
     case measure=>simp [intOf];omega
  ·have HE:Hid ((List.range s.size).all (fun i=>capB ((s.get! i).toNat:Int))=true):=Lib.hid (allr_true (fun j hj=>HA.out j (by omega)))
   by_cases h3:s.size=3
   ·have HR:Hid (curB s=true):=Lib.hid (by unfold curB;rw [HE.out,h3];rfl)
    have e3:((s.size:Int) == 3)=true:=by rw [h3];rfl
    clear h3
    go_wp2_with fail
    go_ret
    exact ⟨by rw [HR.out];rfl,rfl⟩
   ·have HR:Hid (curB s=false):=Lib.hid (by unfold curB;rw [HE.out,decide_eq_false h3];rfl)
    have e3:((s.size:Int) == 3)=false:=by simp;omega
    go_wp2_with fail
    go_ret
    exact ⟨by rw [HR.out];rfl,rfl⟩
theorem curR_any (s:ByteArray) (hs:s.size≤maxLen) (w:World):Calls Tryz.prog 130 #[.string s] w fun e w'=>e=.returned (.bool (curB s))∧w=w':=by
 unfold maxLen at hs
 go_enter Tryz.func130,Tryz.ntmps130
 go_wp2_with fail
 go_loop [3] (fun i=>∃ k:Nat,k≤s.size∧i=.int .i64 k∧Hid (∀ j,j < k→capB ((s.get! j).toNat:Int)=true)) (fun i=>s.size - (intOf i).toNat)
 case atStart=>exact ⟨0,Nat.zero_le _,rfl,Lib.hid (fun j hj=>absurd hj (Nat.not_lt_zero j))⟩
 case round=>
  obtain ⟨k,hk,rfl,HA⟩:=hrel
  by_cases hlt:k < s.size
  ·obtain ⟨v,hv⟩:∃ v,((s[k].toNat:Nat):Int)=v:=⟨_,rfl⟩
   have HC:Hid (((s.get! k).toNat:Int)=v):=Lib.hid (by rw [get!_lt hlt];exact hv)
   obtain ⟨a,ha⟩:∃ a,decide (v < 65)=a:=⟨_,rfl⟩
   obtain ⟨b,hb⟩:∃ b,decide (90 < v)=b:=⟨_,rfl⟩
   have HP:Hid (capB ((s.get! k).toNat:Int)=!(a || b)):=Lib.hid (by rw [HC.out,← ha,← hb];rfl)
   cases a with
   | true=>
    go_wp2_with fail
    go_ret
    exact ⟨by unfold curB;rw [allr_false hlt (HP.out.trans rfl)];rfl,rfl⟩
   | false=>
    cases b with
    | true=>
     go_wp2_with fail
     go_ret
     exact ⟨by unfold curB;rw [allr_false hlt (HP.out.trans rfl)];rfl,rfl⟩
    | false=>
     go_wp2_with fail
     go_round
     case rel=>exact ⟨k+1,by omega,by go_num,Lib.hid (fun j hj=>by
      by_cases h:j < k
      ·exact HA.out j h
      ·rw [show j=k from by omega];exact HP.out.trans rfl)⟩
     case measure=>simp [intOf];omega
  ·have HE:Hid ((List.range s.size).all (fun i=>capB ((s.get! i).toNat:Int))=true):=Lib.hid (allr_true (fun j hj=>HA.out j (by omega)))
   by_cases h3:s.size=3
   ·have HR:Hid (curB s=true):=Lib.hid (by unfold curB;rw [HE.out,h3];rfl)
    have e3:((s.size:Int) == 3)=true:=by rw [h3];rfl
    clear h3
    go_wp2_with fail
    go_ret
    exact ⟨by rw [HR.out];rfl,rfl⟩
   ·have HR:Hid (curB s=false):=Lib.hid (by unfold curB;rw [HE.out,decide_eq_false h3];rfl)
    have e3:((s.size:Int) == 3)=false:=by simp;omega
    go_wp2_with fail
    go_ret
    exact ⟨by rw [HR.out];rfl,rfl⟩
def nmC (i:Nat) (v:Int):Bool:=!(!letB v && (decide (i=0) || ((v != 45) && (decide (v < 48) || decide (57 < v)))))
def nameB (s:ByteArray):Bool:=(List.range s.size).all (fun i=>nmC i ((s.get! i).toNat:Int)) && (decide (1≤s.size) && decide (s.size≤16))
theorem nameP_any (s:ByteArray) (hs:s.size≤maxLen) (w:World):Calls Tryz.prog 104 #[.string s] w fun e w'=>e=.returned (.bool (nameB s))∧w=w':=by
 unfold maxLen at hs
 go_enter Tryz.func104,Tryz.ntmps104
 go_wp2_with fail
 go_loop [7] (fun i=>∃ k:Nat,k≤s.size∧i=.int .i64 k∧Hid (∀ j,j < k→nmC j ((s.get! j).toNat:Int)=true)) (fun i=>s.size - (intOf i).toNat)
 case atStart=>exact ⟨0,Nat.zero_le _,rfl,Lib.hid (fun j hj=>absurd hj (Nat.not_lt_zero j))⟩
 case round=>
  obtain ⟨k,hk,rfl,HA⟩:=hrel
  by_cases hlt:k < s.size
  ·obtain ⟨v,hv⟩:∃ v,((s[k].toNat:Nat):Int)=v:=⟨_,rfl⟩
   have HC:Hid (((s.get! k).toNat:Int)=v):=Lib.hid (by rw [get!_lt hlt];exact hv)
   have HL:Hid (∀ W,Calls Tryz.prog 146 #[.int .u8 v] W fun e w'=>e=.returned (.bool (letB v))∧W=w'):=Lib.hid (fun W=>letP_any v W)
   obtain ⟨q,hq⟩:∃ q,letB v=q:=⟨_,rfl⟩
   rw [hq] at HL
   obtain ⟨z,hz⟩:∃ z,((k:Int) == 0)=z:=⟨_,rfl⟩
   obtain ⟨c,hc⟩:∃ c,(v != 45)=c:=⟨_,rfl⟩
   obtain ⟨a,ha⟩:∃ a,decide (v < 48)=a:=⟨_,rfl⟩
   obtain ⟨b,hb⟩:∃ b,decide (57 < v)=b:=⟨_,rfl⟩
   have hz':decide (k=0)=z:=by rw [← hz];rcases Nat.eq_zero_or_pos k with h | h;(subst h;rfl);(rw [decide_eq_false (by omega)];symm;rw [beq_eq_false_iff_ne];omega)
   have HP:Hid (nmC k ((s.get! k).toNat:Int)=!(!q && (z || (c && (a || b))))):=Lib.hid (by rw [HC.out];unfold nmC;rw [hq,hz',hc,ha,hb])
   clear hq hz'
   cases q with
   | true=>
    (go_wp2_with ((first | go_at_call 146 | go_at_call 170);refine (HL.out _).mono ?_;rintro e w1 ⟨rfl,rfl⟩);go_round;(case rel=>exact ⟨k+1,by omega,by go_num,Lib.hid (fun j hj=>by by_cases h:j < k;(exact HA.out j h);(rw [show j=k from by omega];exact HP.out.trans rfl))⟩);(case measure=>simp [intOf];omega))
   | false=>
    cases z with
    | true=>
     (go_wp2_with ((first | go_at_call 146 | go_at_call 170);refine (HL.out _).mono ?_;rintro e w1 ⟨rfl,rfl⟩);go_ret;exact ⟨by unfold nameB;rw [allr_false hlt (HP.out.trans rfl)];rfl,rfl⟩)
    | false=>
     cases c with
     | false=>
      (go_wp2_with ((first | go_at_call 146 | go_at_call 170);refine (HL.out _).mono ?_;rintro e w1 ⟨rfl,rfl⟩);go_round;(case rel=>exact ⟨k+1,by omega,by go_num,Lib.hid (fun j hj=>by by_cases h:j < k;(exact HA.out j h);(rw [show j=k from by omega];exact HP.out.trans rfl))⟩);(case measure=>simp [intOf];omega))
     | true=>
      cases a with
      | true=>
       (go_wp2_with ((first | go_at_call 146 | go_at_call 170);refine (HL.out _).mono ?_;rintro e w1 ⟨rfl,rfl⟩);go_ret;exact ⟨by unfold nameB;rw [allr_false hlt (HP.out.trans rfl)];rfl,rfl⟩)
      | false=>
       cases b with
       | true=>
        (go_wp2_with ((first | go_at_call 146 | go_at_call 170);refine (HL.out _).mono ?_;rintro e w1 ⟨rfl,rfl⟩);go_ret;exact ⟨by unfold nameB;rw [allr_false hlt (HP.out.trans rfl)];rfl,rfl⟩)
       | false=>
        (go_wp2_with ((first | go_at_call 146 | go_at_call 170);refine (HL.out _).mono ?_;rintro e w1 ⟨rfl,rfl⟩);go_round;(case rel=>exact ⟨k+1,by omega,by go_num,Lib.hid (fun j hj=>by by_cases h:j < k;(exact HA.out j h);(rw [show j=k from by omega];exact HP.out.trans rfl))⟩);(case measure=>simp [intOf];omega))
  ·have HE:Hid ((List.range s.size).all (fun i=>nmC i ((s.get! i).toNat:Int))=true):=Lib.hid (allr_true (fun j hj=>HA.out j (by omega)))
   obtain ⟨a,ha⟩:∃ a,decide (1≤s.size)=a:=⟨_,rfl⟩
   obtain ⟨b,hb⟩:∃ b,decide (s.size≤16)=b:=⟨_,rfl⟩
   have HR:Hid (nameB s=(a && b)):=Lib.hid (by unfold nameB;rw [HE.out,ha,hb];rfl)
   have ha2:decide ((1:Int)≤(s.size:Int))=a:=by rw [← ha];exact decide_eq_decide.2 (by omega)
   have hb2:decide ((s.size:Int)≤16)=b:=by rw [← hb];exact decide_eq_decide.2 (by omega)
   cases a <;> cases b <;> (go_wp2_with fail;go_ret;exact ⟨by rw [HR.out];rfl,rfl⟩)
theorem nameR_any (s:ByteArray) (hs:s.size≤maxLen) (w:World):Calls Tryz.prog 136 #[.string s] w fun e w'=>e=.returned (.bool (nameB s))∧w=w':=by
 unfold maxLen at hs
 go_enter Tryz.func136,Tryz.ntmps136
 go_wp2_with fail
 go_loop [3] (fun i=>∃ k:Nat,k≤s.size∧i=.int .i64 k∧Hid (∀ j,j < k→nmC j ((s.get! j).toNat:Int)=true)) (fun i=>s.size - (intOf i).toNat)
 case atStart=>exact ⟨0,Nat.zero_le _,rfl,Lib.hid (fun j hj=>absurd hj (Nat.not_lt_zero j))⟩
 case round=>
  obtain ⟨k,hk,rfl,HA⟩:=hrel
  by_cases hlt:k < s.size
  ·obtain ⟨v,hv⟩:∃ v,((s[k].toNat:Nat):Int)=v:=⟨_,rfl⟩
   have HC:Hid (((s.get! k).toNat:Int)=v):=Lib.hid (by rw [get!_lt hlt];exact hv)
   have HL:Hid (∀ W,Calls Tryz.prog 170 #[.int .u8 v] W fun e w'=>e=.returned (.bool (letB v))∧W=w'):=Lib.hid (fun W=>letR_any v W)
   obtain ⟨q,hq⟩:∃ q,letB v=q:=⟨_,rfl⟩
   rw [hq] at HL
   obtain ⟨z,hz⟩:∃ z,((k:Int) == 0)=z:=⟨_,rfl⟩
   obtain ⟨c,hc⟩:∃ c,(v != 45)=c:=⟨_,rfl⟩
   obtain ⟨a,ha⟩:∃ a,decide (v < 48)=a:=⟨_,rfl⟩
   obtain ⟨b,hb⟩:∃ b,decide (57 < v)=b:=⟨_,rfl⟩
   have hz':decide (k=0)=z:=by rw [← hz];rcases Nat.eq_zero_or_pos k with h | h;(subst h;rfl);(rw [decide_eq_false (by omega)];symm;rw [beq_eq_false_iff_ne];omega)
   have HP:Hid (nmC k ((s.get! k).toNat:Int)=!(!q && (z || (c && (a || b))))):=Lib.hid (by rw [HC.out];unfold nmC;rw [hq,hz',hc,ha,hb])
   clear hq hz'
   cases q with
   | true=>
    (go_wp2_with ((first | go_at_call 146 | go_at_call 170);refine (HL.out _).mono ?_;rintro e w1 ⟨rfl,rfl⟩);go_round;(case rel=>exact ⟨k+1,by omega,by go_num,Lib.hid (fun j hj=>by by_cases h:j < k;(exact HA.out j h);(rw [show j=k from by omega];exact HP.out.trans rfl))⟩);(case measure=>simp [intOf];omega))
   | false=>
    cases z with
    | true=>
     (go_wp2_with ((first | go_at_call 146 | go_at_call 170);refine (HL.out _).mono ?_;rintro e w1 ⟨rfl,rfl⟩);go_ret;exact ⟨by unfold nameB;rw [allr_false hlt (HP.out.trans rfl)];rfl,rfl⟩)
    | false=>
     cases c with
     | false=>
      (go_wp2_with ((first | go_at_call 146 | go_at_call 170);refine (HL.out _).mono ?_;rintro e w1 ⟨rfl,rfl⟩);go_round;(case rel=>exact ⟨k+1,by omega,by go_num,Lib.hid (fun j hj=>by by_cases h:j < k;(exact HA.out j h);(rw [show j=k from by omega];exact HP.out.trans rfl))⟩);(case measure=>simp [intOf];omega))
     | true=>
      cases a with
      | true=>
       (go_wp2_with ((first | go_at_call 146 | go_at_call 170);refine (HL.out _).mono ?_;rintro e w1 ⟨rfl,rfl⟩);go_ret;exact ⟨by unfold nameB;rw [allr_false hlt (HP.out.trans rfl)];rfl,rfl⟩)
      | false=>
       cases b with
       | true=>
        (go_wp2_with ((first | go_at_call 146 | go_at_call 170);refine (HL.out _).mono ?_;rintro e w1 ⟨rfl,rfl⟩);go_ret;exact ⟨by unfold nameB;rw [allr_false hlt (HP.out.trans rfl)];rfl,rfl⟩)
       | false=>
        (go_wp2_with ((first | go_at_call 146 | go_at_call 170);refine (HL.out _).mono ?_;rintro e w1 ⟨rfl,rfl⟩);go_round;(case rel=>exact ⟨k+1,by omega,by go_num,Lib.hid (fun j hj=>by by_cases h:j < k;(exact HA.out j h);(rw [show j=k from by omega];exact HP.out.trans rfl))⟩);(case measure=>simp [intOf];omega))
  ·have HE:Hid ((List.range s.size).all (fun i=>nmC i ((s.get! i).toNat:Int))=true):=Lib.hid (allr_true (fun j hj=>HA.out j (by omega)))
   obtain ⟨a,ha⟩:∃ a,decide (1≤s.size)=a:=⟨_,rfl⟩
   obtain ⟨b,hb⟩:∃ b,decide (s.size≤16)=b:=⟨_,rfl⟩
   have HR:Hid (nameB s=(a && b)):=Lib.hid (by unfold nameB;rw [HE.out,ha,hb];rfl)
   have ha2:decide ((1:Int)≤(s.size:Int))=a:=by rw [← ha];exact decide_eq_decide.2 (by omega)
   have hb2:decide ((s.size:Int)≤16)=b:=by rw [← hb];exact decide_eq_decide.2 (by omega)
   cases a <;> cases b <;> (go_wp2_with fail;go_ret;exact ⟨by rw [HR.out];rfl,rfl⟩)
end Go.Proofs.YtoaidbhiciaeaaaGreat

end
section
namespace Go.Proofs.YtoaidbhiciaeaaaGreat
open Go.RowKit
def findA (l:List Acc) (code:Int):Option Acc:=l.find? (fun a=>a.code == code)
def AccO (r:Option Acc):Value:=.tuple #[(r.getD Acc.zero).val,.bool r.isSome]
theorem findA_some {l:List Acc} {code:Int} {k:Nat} (hk:k < l.length) (h:∀ j (hj:j < l.length),j < k→l[j].code≠code) (he:l[k].code=code):findA l code=some l[k]:=by
 unfold findA
 rw [List.find?_eq_some_iff_getElem]
 exact ⟨by simpa using he,k,hk,rfl,fun j hj=>by simpa using h j (by omega) hj⟩
theorem findA_none {l:List Acc} {code:Int} (h:∀ j (hj:j < l.length),l[j].code≠code):findA l code=none:=by
 unfold findA
 rw [List.find?_eq_none]
 intro a ha
 obtain ⟨j,hj,rfl⟩:=List.getElem_of_mem ha
 simpa using h j hj
structure Res4 (w:World) (g:Nat):Prop where
 c0:∃ v,w.cell? ⟨g,0,none⟩=some v
 c1:∃ v,w.cell? ⟨g,1,none⟩=some v
 c2:∃ v,w.cell? ⟨g,2,none⟩=some v
 c3:∃ v,w.cell? ⟨g,3,none⟩=some v
 f0:w.frozen? ⟨g,0,none⟩=false
 f1:w.frozen? ⟨g,1,none⟩=false
 f2:w.frozen? ⟨g,2,none⟩=false
 f3:w.frozen? ⟨g,3,none⟩=false
theorem find_any (l:List Acc) (code:Int) (ao:Option Addr) (cap b o:Nat) (w:World) (H:Accs w ao l cap b o) :
  Calls Tryz.prog 103 #[.slice ao l.length cap,.int .i64 code] w fun e w'=>e=.returned (AccO (findA l code))∧Keeps w w':=by
 have hcap:=Sl.cap H
 have hle:=Sl.le H
 go_enter Tryz.func103,Tryz.ntmps103
 go_wp2_with fail
 go_loopw [10] (fun vi wr=>∃ k:Nat,k≤l.length∧vi=.int .i64 k∧Hid (∀ j (hj:j < l.length),j < k→l[j].code≠code)∧Hid (Keeps w wr∧Res4 wr w.heap.size)) (fun vi _=>l.length - (intOf vi).toNat)
 case atStart=>exact ⟨0,Nat.zero_le _,rfl,Lib.hid (fun j _ h=>absurd h (Nat.not_lt_zero _)),Lib.hid ⟨(Keeps.refl w).alloc _,⟨.int .i64 0,by go_simp⟩,⟨.int .i64 0,by go_simp⟩,⟨.int .i64 0,by go_simp⟩,⟨.int .i64 0,by go_simp⟩,by go_simp,by go_simp,by go_simp,by go_simp⟩⟩
 case round=>
  obtain ⟨k,hk,rfl,HN,HW⟩:=hrel
  by_cases hlt:k < l.length
  ·have HL:=H.keeps HW.out.1
   have hix:=HL.at Tryz.underlying24 Tryz.sizeOf68 k hlt
   have c0:=HL.cell Acc.len k hlt 0 _ rfl
   have c1:=HL.cell Acc.len k hlt 1 _ rfl
   have c2:=HL.cell Acc.len k hlt 2 _ rfl
   have c3:=HL.cell Acc.len k hlt 3 _ rfl
   simp only [Nat.add_zero] at c0
   obtain ⟨⟨v0,d0⟩,⟨v1,d1⟩,⟨v2,d2⟩,⟨v3,d3⟩,f0,f1,f2,f3⟩:=HW.out.2
   have hbw:=World.block_lt_of_cell? wr _ d0
   clear HL
   by_cases hc:l[k].code=code
   ·have HF:=Lib.hid (findA_some hlt HN.out hc)
    have e1:(l[k].code == code)=true:=by simpa using hc
    clear hc
    go_wp2
    refine bodyPost_ret (v:=.tuple #[l[k].val,.bool true]) (by simp [results,Tryz.results103,go_sem,d0,d1,d2,d3,hbw,Acc.val]) rfl ?_
    rw [HF.out]
    exact ⟨rfl,by (repeat (first | exact HW.out.1 | refine Keeps.alloc ?_ _ | refine Keeps.setCell ?_ (Nat.le_refl _) _))⟩
   ·have e1:(l[k].code == code)=false:=by simpa using hc
    have HN2:Hid (∀ j (hj:j < l.length),j < k+1→l[j].code≠code):=Lib.hid (fun j hj h=>by
     rcases Nat.lt_succ_iff_lt_or_eq.1 h with h | rfl
     ·exact HN.out j hj h
     ·exact hc)
    clear hc
    go_wp2
    go_roundw
    case rel=>exact ⟨k+1,by omega,by go_num,HN2,Lib.hid ⟨(by first | exact HW.out.1 | exact HW.out.1.alloc _),⟨v0,by go_simp⟩,⟨v1,by go_simp⟩,⟨v2,by go_simp⟩,⟨v3,by go_simp⟩,by go_simp,by go_simp,by go_simp,by go_simp⟩⟩
    case measure=>simp [intOf];omega
  ·obtain rfl:k=l.length:=by omega
   have HF:=Lib.hid (findA_none (l:=l) (code:=code) fun j hj=>HN.out j hj hj)
   obtain ⟨⟨v0,d0⟩,⟨v1,d1⟩,⟨v2,d2⟩,⟨v3,d3⟩,f0,f1,f2,f3⟩:=HW.out.2
   have hbw:=World.block_lt_of_cell? wr _ d0
   go_wp2
   refine bodyPost_ret (v:=.tuple #[Acc.zero.val,.bool false]) (by simp [results,Tryz.results103,go_sem,d0,d1,d2,d3,hbw,Acc.val,Acc.zero]) rfl ?_
   rw [HF.out]
   exact ⟨rfl,by (repeat (first | exact HW.out.1 | refine Keeps.alloc ?_ _ | refine Keeps.setCell ?_ (Nat.le_refl _) _))⟩
theorem rfind_any (l:List Acc) (code:Int) (ao:Option Addr) (cap b o:Nat) (w:World) (H:Accs w ao l cap b o) :
  Calls Tryz.prog 169 #[.slice ao l.length cap,.int .i64 code] w fun e w'=>e=.returned (AccO (findA l code))∧Keeps w w':=by
 have hcap:=Sl.cap H
 have hle:=Sl.le H
 go_enter Tryz.func169,Tryz.ntmps169
 go_wp2_with fail
 go_loopw [6] (fun vi wr=>∃ k:Nat,k≤l.length∧vi=.int .i64 k∧Hid (∀ j (hj:j < l.length),j < k→l[j].code≠code)∧Hid (Keeps w wr∧Res4 wr w.heap.size)) (fun vi _=>l.length - (intOf vi).toNat)
 case atStart=>exact ⟨0,Nat.zero_le _,rfl,Lib.hid (fun j _ h=>absurd h (Nat.not_lt_zero _)),Lib.hid ⟨(Keeps.refl w).alloc _,⟨.int .i64 0,by go_simp⟩,⟨.int .i64 0,by go_simp⟩,⟨.int .i64 0,by go_simp⟩,⟨.int .i64 0,by go_simp⟩,by go_simp,by go_simp,by go_simp,by go_simp⟩⟩
 case round=>
  obtain ⟨k,hk,rfl,HN,HW⟩:=hrel
  by_cases hlt:k < l.length
  ·have HL:=H.keeps HW.out.1
   have hix:=HL.at Tryz.underlying24 Tryz.sizeOf68 k hlt
   have c0:=HL.cell Acc.len k hlt 0 _ rfl
   have c1:=HL.cell Acc.len k hlt 1 _ rfl
   have c2:=HL.cell Acc.len k hlt 2 _ rfl
   have c3:=HL.cell Acc.len k hlt 3 _ rfl
   simp only [Nat.add_zero] at c0
   obtain ⟨⟨v0,d0⟩,⟨v1,d1⟩,⟨v2,d2⟩,⟨v3,d3⟩,f0,f1,f2,f3⟩:=HW.out.2
   have hbw:=World.block_lt_of_cell? wr _ d0
   clear HL
   by_cases hc:l[k].code=code
   ·have HF:=Lib.hid (findA_some hlt HN.out hc)
    have e1:(l[k].code == code)=true:=by simpa using hc
    clear hc
    go_wp2
    refine bodyPost_ret (v:=.tuple #[l[k].val,.bool true]) (by simp [results,Tryz.results169,go_sem,d0,d1,d2,d3,hbw,Acc.val]) rfl ?_
    rw [HF.out]
    exact ⟨rfl,by (repeat (first | exact HW.out.1 | refine Keeps.alloc ?_ _ | refine Keeps.setCell ?_ (Nat.le_refl _) _))⟩
   ·have e1:(l[k].code == code)=false:=by simpa using hc
    have HN2:Hid (∀ j (hj:j < l.length),j < k+1→l[j].code≠code):=Lib.hid (fun j hj h=>by
     rcases Nat.lt_succ_iff_lt_or_eq.1 h with h | rfl
     ·exact HN.out j hj h
     ·exact hc)
    clear hc
    go_wp2
    go_roundw
    case rel=>exact ⟨k+1,by omega,by go_num,HN2,Lib.hid ⟨(by first | exact HW.out.1 | exact HW.out.1.alloc _),⟨v0,by go_simp⟩,⟨v1,by go_simp⟩,⟨v2,by go_simp⟩,⟨v3,by go_simp⟩,by go_simp,by go_simp,by go_simp,by go_simp⟩⟩
    case measure=>simp [intOf];omega
  ·obtain rfl:k=l.length:=by omega
   have HF:=Lib.hid (findA_none (l:=l) (code:=code) fun j hj=>HN.out j hj hj)
   obtain ⟨⟨v0,d0⟩,⟨v1,d1⟩,⟨v2,d2⟩,⟨v3,d3⟩,f0,f1,f2,f3⟩:=HW.out.2
   have hbw:=World.block_lt_of_cell? wr _ d0
   go_wp2
   refine bodyPost_ret (v:=.tuple #[Acc.zero.val,.bool false]) (by simp [results,Tryz.results169,go_sem,d0,d1,d2,d3,hbw,Acc.val,Acc.zero]) rfl ?_
   rw [HF.out]
   exact ⟨rfl,by (repeat (first | exact HW.out.1 | refine Keeps.alloc ?_ _ | refine Keeps.setCell ?_ (Nat.le_refl _) _))⟩
end Go.Proofs.YtoaidbhiciaeaaaGreat

end
section
namespace Go.Proofs.YtoaidbhiciaeaaaGreat
def basicB (a:Acc) (group:Bool):Bool:=
 decide (1≤a.code) && decide (a.code≤99999) && decide (1≤a.kind) && decide (a.kind≤5) && (if group then decide (1≤a.basis) && decide (a.basis≤3) else decide (a.basis=0))
def aboveB (l:List Acc) (a:Acc):Bool:=match findA l a.parent with
 | none=>false
 | some p=>p.code != a.code && p.kind == a.kind
def properRB (l:List Acc) (a:Acc) (group:Bool):Bool:=basicB a group && (a.parent == 0 || aboveB l a)
def pathR (l:List Acc):Nat→Int→List Int
 | 0,_=>[]
 | n+1,c=>match findA l c with
  | none=>[]
  | some a=>c :: pathR l n a.parent
def climbR (l:List Acc) (c:Int):List Int:=pathR l (l.length+1) c
def pathP (l:List Acc):Nat→List Int→Int→List Int
 | 0,out,_=>out
 | n+1,out,c=>match findA l c with
  | none=>out
  | some a=>if out.contains c then out else pathP l n (out ++ [c]) a.parent
def climbP (l:List Acc) (c:Int):List Int:=pathP l (l.length+1) [] c
def topB (l:List Acc) (c:Int):Bool:=match findA l ((climbP l c).getLast?.getD 0) with
 | none=>true
 | some t=>t.parent == 0
def properPB (l:List Acc) (a:Acc) (group:Bool):Bool:=basicB a group && (a.parent == 0 || (aboveB l a && topB l a.code))
def riseB (l:List Acc) (k:Nat):Bool:=match l[k]? with
 | none=>true
 | some x=>k == 0 || match l[k-1]? with | none=>true | some y=>decide (y.code < x.code)
theorem riseB_zero (l:List Acc):riseB l 0=true:=by unfold riseB;cases l[0]? <;> rfl
theorem riseB_succ {l:List Acc} {k:Nat} (h:k+1 < l.length):riseB l (k+1)=decide (l[k].code < l[k+1].code):=by
 unfold riseB
 rw [List.getElem?_eq_getElem h]
 have:k+1 - 1=k:=by omega
 simp only [this]
 rw [List.getElem?_eq_getElem (by omega)]
 simp
def okP (l:List Acc) (group:Bool) (k:Nat):Bool:=match l[k]? with
 | none=>true
 | some x=>riseB l k && properPB l x group
def okR (l:List Acc) (group:Bool) (k:Nat):Bool:=match l[k]? with
 | none=>true
 | some x=>properRB l x group && riseB l k && decide ((climbR l x.code).length≤l.length)
def validPB (l:List Acc) (group:Bool):Bool:=(List.range l.length).all (okP l group) && decide (l.length≤200)
def validRB (l:List Acc) (group:Bool):Bool:=decide (l.length≤200) && (List.range l.length).all (okR l group)
theorem findA_mem {l:List Acc} {c:Int} {a:Acc} (h:findA l c=some a):a∈l∧a.code=c:=by
 unfold findA at h
 exact ⟨List.mem_of_find?_eq_some h,by simpa using List.find?_some h⟩
theorem nodup_le {xs ys:List Int} (h:xs.Nodup) (hs:∀ x∈xs,x∈ys):xs.length≤ys.length:=by
 induction xs generalizing ys with
 | nil=>simp
 | cons x xs ih=>
  have hx:=hs x (by simp)
  have hn:=List.nodup_cons.1 h
  have:=ih (ys:=ys.erase x) hn.2 (fun y hy=>(List.mem_erase_of_ne (fun e=>hn.1 (by rw [← e];exact hy))).2 (hs y (by simp [hy])))
  rw [List.length_erase_of_mem hx] at this
  have:0 < ys.length:=List.length_pos_of_mem hx
  simp only [List.length_cons]
  omega
theorem codes_le {l:List Acc} {out:List Int} (h:out.Nodup) (hf:∀ c∈out,(findA l c).isSome=true):out.length≤l.length:=by
 have:=nodup_le (ys:=l.map Acc.code) h (fun c hc=>by
  obtain ⟨a,ha⟩:=Option.isSome_iff_exists.1 (hf c hc)
  obtain ⟨h1,h2⟩:=findA_mem ha
  exact List.mem_map.2 ⟨a,h1,h2⟩)
 simpa using this
theorem pathR_full {l:List Acc} {S:List Int} (h:∀ d∈S,∃ a,findA l d=some a∧a.parent∈S):∀ (n:Nat) (c:Int),c∈S→(pathR l n c).length=n
 | 0,_,_=>rfl
 | n+1,c,hc=>by
  obtain ⟨a,ha,hp⟩:=h c hc
  simp only [pathR,ha,List.length_cons,pathR_full h n a.parent hp]
def topOf (l:List Acc) (xs:List Int):Bool:=match findA l (xs.getLast?.getD 0) with
 | none=>true
 | some t=>t.parent == 0
theorem top_path {l:List Acc} (h0:findA l 0=none) (hup:∀ c a,findA l c=some a→a.parent=0∨(findA l a.parent).isSome=true) :
  ∀ (n:Nat) (out:List Int) (c:Int),out.length+n=l.length+1→out.Nodup→(findA l c).isSome=true →
   (∀ d∈out,∃ a,findA l d=some a∧(a.parent∈out∨a.parent=c))→(∀ z,out.getLast?=some z→∃ a,findA l z=some a∧a.parent=c) →
   topOf l (pathP l n out c)=decide ((pathR l n c).length < n)
 | 0,out,c,hl,hn,hc,hs,hz=>by
  have:=codes_le hn (fun d hd=>by obtain ⟨a,ha,_⟩:=hs d hd;rw [ha];rfl)
  omega
 | n+1,out,c,hl,hn,hc,hs,hz=>by
  obtain ⟨a,ha⟩:=Option.isSome_iff_exists.1 hc
  by_cases hin:out.contains c=true
  ·have hin':c∈out:=by simpa using hin
   have hfull:=pathR_full (l:=l) (S:=out) (fun d hd=>by
    obtain ⟨x,hx,hp⟩:=hs d hd
    exact ⟨x,hx,hp.elim id (fun e=>e ▸ hin')⟩) (n+1) c hin'
   have hp:pathP l (n+1) out c=out:=by simp only [pathP,ha,hin,if_true]
   rw [hp,hfull]
   have hne:out≠[]:=List.ne_nil_of_mem hin'
   obtain ⟨x,hx,hxp⟩:=hz _ (List.getLast?_eq_some_getLast hne)
   have hc0:c≠0:=by intro e;rw [e,h0] at ha;cases ha
   simp [topOf,List.getLast?_eq_some_getLast hne,hx,hxp,hc0]
  ·have hin':c∉out:=by simpa using hin
   have hp:pathP l (n+1) out c=pathP l n (out ++ [c]) a.parent:=by simp only [pathP,ha,hin];rfl
   have hr:(pathR l (n+1) c).length=(pathR l n a.parent).length+1:=by simp only [pathR,ha,List.length_cons]
   have hn':(out ++ [c]).Nodup:=by
    rw [List.nodup_append]
    refine ⟨hn,by simp,?_⟩
    intro x hx y hy e
    simp only [List.mem_singleton] at hy
    subst hy;exact hin' (e ▸ hx)
   have hfound:∀ d∈out ++ [c],(findA l d).isSome=true:=by
    intro d hd
    rcases List.mem_append.1 hd with hd | hd
    ·obtain ⟨x,hx,_⟩:=hs d hd;rw [hx];rfl
    ·simp only [List.mem_singleton] at hd;subst hd;exact hc
   rw [hp,hr]
   by_cases hp0:a.parent=0
   ·have hle:=codes_le hn' hfound
    simp only [List.length_append,List.length_singleton] at hle
    obtain ⟨m,rfl⟩:∃ m,n=m+1:=⟨n - 1,by omega⟩
    have e1:pathP l (m+1) (out ++ [c]) a.parent=out ++ [c]:=by simp only [pathP,hp0,h0]
    have e2:(pathR l (m+1) a.parent).length=0:=by simp only [pathR,hp0,h0,List.length_nil]
    rw [e1,e2]
    simp [topOf,ha,hp0]
   ·have hs':∀ d∈out ++ [c],∃ x,findA l d=some x∧(x.parent∈out ++ [c]∨x.parent=a.parent):=by
     intro d hd
     rcases List.mem_append.1 hd with hd | hd
     ·obtain ⟨x,hx,hxp⟩:=hs d hd
      refine ⟨x,hx,.inl ?_⟩
      rcases hxp with hxp | hxp <;> simp [hxp]
     ·simp only [List.mem_singleton] at hd;subst hd;exact ⟨a,ha,.inr rfl⟩
    rw [top_path h0 hup n (out ++ [c]) a.parent (by simp only [List.length_append,List.length_singleton];omega) hn' ((hup c a ha).resolve_left hp0) hs'
     (by intro z hz;simp at hz;subst hz;exact ⟨a,ha,rfl⟩)]
    simp
theorem riseB_lt {l:List Acc} (h:∀ k < l.length,riseB l k=true):∀ (i j:Nat) (hi:i < l.length) (hj:j < i),l[j].code < l[i].code
 | i+1,j,hi,hj=>by
  have h1:=h (i+1) hi
  rw [riseB_succ hi] at h1
  have h1:l[i].code < l[i+1].code:=of_decide_eq_true h1
  by_cases e:j=i
  ·subst e;exact h1
  ·have:=riseB_lt h i j (by omega) (by omega);omega
theorem findA_at {l:List Acc} (h:∀ k < l.length,riseB l k=true) (i:Nat) (hi:i < l.length):findA l l[i].code=some l[i]:=by
 unfold findA
 rw [List.find?_eq_some_iff_getElem]
 refine ⟨by simp,i,hi,rfl,fun j hj=>?_⟩
 have:=riseB_lt h i j hi hj
 simp;omega
theorem all_congr_range {n:Nat} {f g:Nat→Bool} (h:∀ k < n,f k=g k):(List.range n).all f=(List.range n).all g:=by
 rw [Bool.eq_iff_iff,List.all_eq_true,List.all_eq_true]
 exact ⟨fun H k hk=>by rw [← h k (List.mem_range.1 hk)];exact H k hk,fun H k hk=>by rw [h k (List.mem_range.1 hk)];exact H k hk⟩
theorem all_range_false {n k:Nat} {f:Nat→Bool} (hk:k < n) (h:f k=false):(List.range n).all f=false:=by
 cases e:(List.range n).all f with
 | false=>rfl
 | true=>rw [List.all_eq_true.1 e k (List.mem_range.2 hk)] at h;cases h
theorem okP_proper {l:List Acc} {group:Bool} {k:Nat} (hk:k < l.length):okP l group k=(riseB l k && properPB l l[k] group):=by
 unfold okP;rw [List.getElem?_eq_getElem hk]
theorem okR_proper {l:List Acc} {group:Bool} {k:Nat} (hk:k < l.length):okR l group k=(properRB l l[k] group && riseB l k && decide ((climbR l l[k].code).length≤l.length)):=by
 unfold okR;rw [List.getElem?_eq_getElem hk]
theorem ok_eq {l:List Acc} {group:Bool} (hr:∀ k < l.length,riseB l k=true) (hp:∀ k,(h:k < l.length)→properRB l l[k] group=true) (k:Nat) (hk:k < l.length) :
  okP l group k=okR l group k:=by
 have hmem:∀ c a,findA l c=some a→∃ k,∃ h:k < l.length,l[k]=a:=fun c a h=>List.getElem_of_mem (findA_mem h).1
 have h0:findA l 0=none:=by
  cases e:findA l 0 with
  | none=>rfl
  | some a=>
   obtain ⟨j,hj,ej⟩:=hmem 0 a e
   have h1:=hp j hj
   have h2:=(findA_mem e).2
   rw [ej] at h1
   simp [properRB,basicB] at h1
   omega
 have hup:∀ c a,findA l c=some a→a.parent=0∨(findA l a.parent).isSome=true:=by
  intro c a e
  obtain ⟨j,hj,ej⟩:=hmem c a e
  have h1:=hp j hj
  rw [ej] at h1
  simp only [properRB,Bool.and_eq_true,Bool.or_eq_true,beq_iff_eq] at h1
  rcases h1.2 with h | h
  ·exact .inl h
  ·refine .inr ?_
   unfold aboveB at h
   cases e:findA l a.parent with
   | none=>rw [e] at h;cases h
   | some p=>rfl
 have hat:=findA_at hr k hk
 have ht:=top_path h0 hup (l.length+1) [] l[k].code (by simp) (by simp) (by rw [hat];rfl) (by simp) (by simp)
 have htop:topB l l[k].code=decide ((climbR l l[k].code).length≤l.length):=by
  have:topB l l[k].code=topOf l (pathP l (l.length+1) [] l[k].code):=rfl
  rw [this,ht]
  exact decide_eq_decide.2 (by unfold climbR;omega)
 have h1:=hp k hk
 rw [okP_proper hk,okR_proper hk,h1,hr k hk,← htop]
 simp only [properRB,Bool.and_eq_true,Bool.or_eq_true] at h1
 by_cases hp0:l[k].parent=0
 ·have:topB l l[k].code=true:=by
   rw [htop]
   have e:climbR l l[k].code=[l[k].code]:=by
    unfold climbR
    simp only [pathR,hat,hp0]
    cases hl:l.length with
    | zero=>rfl
    | succ m=>simp only [pathR,h0]
   rw [e];simp;omega
  rw [this]
  simp [properPB,h1.1,hp0]
 ·have:aboveB l l[k]=true:=h1.2.resolve_left (by simpa using hp0)
  simp [properPB,h1.1,hp0,this]
theorem valid_eq (l:List Acc) (group:Bool):validPB l group=validRB l group:=by
 unfold validPB validRB
 rw [Bool.and_comm]
 congr 1
 by_cases hq:∀ k,(h:k < l.length)→riseB l k=true∧properRB l l[k] group=true
 ·refine all_congr_range (fun k hk=>ok_eq (fun k hk=>(hq k hk).1) (fun k hk=>(hq k hk).2) k hk)
 ·have:∃ k,∃ h:k < l.length,¬ (riseB l k=true∧properRB l l[k] group=true):=by
   apply Classical.byContradiction
   intro hno
   exact hq (fun k h=>Classical.byContradiction (fun hc=>hno ⟨k,h,hc⟩))
  obtain ⟨k,hk,hbad⟩:=this
  have f1:okP l group k=false:=by
   rw [okP_proper hk]
   cases e:riseB l k && properPB l l[k] group with
   | false=>rfl
   | true=>
    simp only [Bool.and_eq_true,properPB,Bool.or_eq_true] at e
    refine absurd ⟨e.1,?_⟩ hbad
    simp only [properRB,Bool.and_eq_true,Bool.or_eq_true]
    exact ⟨e.2.1,e.2.2.imp id And.left⟩
  have f2:okR l group k=false:=by
   rw [okR_proper hk]
   cases e:properRB l l[k] group && riseB l k && decide ((climbR l l[k].code).length≤l.length) with
   | false=>rfl
   | true=>
    simp only [Bool.and_eq_true] at e
    exact absurd ⟨e.1.2,e.1.1⟩ hbad
  rw [all_range_false hk f1,all_range_false hk f2]
end Go.Proofs.YtoaidbhiciaeaaaGreat

end
