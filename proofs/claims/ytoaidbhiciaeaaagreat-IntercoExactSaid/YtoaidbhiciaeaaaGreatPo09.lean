/- Walks and plain facts that the claim rests on (HolValW, RG). No condition. -/
import Derived.Test.YtoaidbhiciaeaaaGreatPo07
import Derived.Test.YtoaidbhiciaeaaaGreatPo08
import Derived.OrdersHeld
import Derived.WalkKit
set_option linter.unusedSimpArgs false
set_option linter.unusedVariables false
set_option maxHeartbeats 16000000
section
namespace Go.Proofs.YtoaidbhiciaeaaaGreat
open Go.RowKit
def Hol.Ok (x:Hol):Prop:=I64 x.holder∧I64 x.entity∧I64 x.date∧I64 x.share
set_option maxRecDepth 100000 in
theorem hvalid_any (n:Int) (ao:Option Addr) (l:List Hol) (cap b o:Nat) (w:World) (H:Hols w ao l cap b o) (hlen:l.length≤1000) (hok:∀ x∈l,x.Ok) :
  Calls Tryz.prog 39 #[.int .i64 n,.slice ao l.length cap] w fun en w'=>en=.returned (.bool (hvalidB n l))∧Keeps w w':=by
 have hcap:=Sl.cap H
 have hle:=Sl.le H
 have HH:=Lib.hid H
 have HO:=Lib.hid hok
 have hmm:=@run_makeMap Tryz.prog
 clear H hok
 by_cases hs:1≤n∧n≤12∧l.length≤200
 ·obtain ⟨h1,h2,h3⟩:=hs
  go_enter Tryz.func39,Tryz.ntmps39
  go_wp2_with fail
  go_loopw [26] (fun vi wr=>∃ k:Nat,k≤l.length∧vi=.int .i64 k∧Hid (∀ j < k,okH n l j=true)∧Hid (Keeps w wr∧VMap holK wr w.heap.size k (seenH (l.take k)))) (fun vi _=>l.length - (intOf vi).toNat)
  case atStart=>exact ⟨0,Nat.zero_le _,rfl,Lib.hid (fun j hj=>absurd hj (Nat.not_lt_zero _)),Lib.hid ⟨(Keeps.refl w).alloc _,by rw [List.take_zero,seenH_nil];exact VMap.made holK w⟩⟩
  case round=>
   obtain ⟨k,hk,rfl,HN,HW⟩:=hrel
   by_cases hlt:k < l.length
   ·have HL:=HH.out.keeps HW.out.1
    have hix:=Sl.at HL Tryz.underlying32 Tryz.sizeOf101 k hlt
    have c0:=HL.cell Hol.len k hlt 0 _ rfl
    have c1:=HL.cell Hol.len k hlt 1 _ rfl
    have c2:=HL.cell Hol.len k hlt 2 _ rfl
    have c3:=HL.cell Hol.len k hlt 3 _ rfl
    simp only [Nat.add_zero] at c0
    have hxo:=HO.out _ (List.getElem_mem hlt)
    have hokk:=okH_at (n:=n) hlt
    have hkok:holK.ok (keyH l[k]):=⟨hxo.1,hxo.2.1,hxo.2.2.1,(show I64 0 from ⟨by decide,by decide⟩)⟩
    obtain ⟨pr,hpr⟩:∃ pr,properB n l[k]=pr:=⟨_,rfl⟩
    rw [hpr] at hokk
    have HP:Hid (∀ W,Calls Tryz.prog 66 #[.int .i64 n,.agg #[.int .i64 l[k].holder,.int .i64 l[k].entity,.int .i64 l[k].date,.int .i64 l[k].share]] W fun en w'=>en=.returned (.bool pr)∧Keeps W w'):=Lib.hid (fun W=>by have:=properH_any n l[k] W;rw [hpr] at this;exact this)
    clear HL hxo hpr
    cases pr with
    | false=>
     have HQ:=Lib.hid (hvalidB_bad hlt (hokk.trans (Bool.false_and _)))
     clear hokk
     go_wp2_with (go_at_call 66;refine (HP.out _).mono ?_;rintro en w1 ⟨rfl,hk1⟩;have x0:=hk1.cell (p:=⟨wr.heap.size+1,0,none⟩) (v:=.int .i64 l[k].holder) (by go_simp);have x1:=hk1.cell (p:=⟨wr.heap.size+1,1,none⟩) (v:=.int .i64 l[k].entity) (by go_simp);have x2:=hk1.cell (p:=⟨wr.heap.size+1,2,none⟩) (v:=.int .i64 l[k].date) (by go_simp);have x3:=hk1.cell (p:=⟨wr.heap.size+1,3,none⟩) (v:=.int .i64 0) (by go_simp);have HM1:Hid (VMap holK w1 w.heap.size k (seenH (l.take k))):=Lib.hid (((HW.out.2.alloc _).alloc _).keeps hk1);have hlk:(Instr.lookup 136 (.map (some w.heap.size)) (.agg #[.int .i64 l[k].holder,.int .i64 l[k].entity,.int .i64 l[k].date,.int .i64 0]) false).run Tryz.prog w1=.ok (.bool ((l.take k).any (fun a=>sameH a l[k]))) w1:=(by have:=HM1.out.look Tryz.underlying136 (fun w=>Tryz.zeroValue4 w) hkok _ rfl;rw [seenH_get] at this;exact this);(try rw [HS.out] at hlk);have K1:=Lib.hid (((HW.out.1.alloc (.cells #[.int .i64 l[k].holder,.int .i64 l[k].entity,.int .i64 l[k].date,.int .i64 l[k].share] 101)).alloc (.cells #[.int .i64 l[k].holder,.int .i64 l[k].entity,.int .i64 l[k].date,.int .i64 0] 101)).trans hk1);clear hk1)
     go_ret
     rw [HQ.out]
     exact ⟨rfl,K1.out⟩
    | true=>
     cases hs:(l.take k).any (fun a=>sameH a l[k]) with
     | true=>
      rw [hs] at hokk
      have HQ:=Lib.hid (hvalidB_bad hlt hokk)
      have HS:=Lib.hid hs
      clear hokk hs
      go_wp2_with (go_at_call 66;refine (HP.out _).mono ?_;rintro en w1 ⟨rfl,hk1⟩;have x0:=hk1.cell (p:=⟨wr.heap.size+1,0,none⟩) (v:=.int .i64 l[k].holder) (by go_simp);have x1:=hk1.cell (p:=⟨wr.heap.size+1,1,none⟩) (v:=.int .i64 l[k].entity) (by go_simp);have x2:=hk1.cell (p:=⟨wr.heap.size+1,2,none⟩) (v:=.int .i64 l[k].date) (by go_simp);have x3:=hk1.cell (p:=⟨wr.heap.size+1,3,none⟩) (v:=.int .i64 0) (by go_simp);have HM1:Hid (VMap holK w1 w.heap.size k (seenH (l.take k))):=Lib.hid (((HW.out.2.alloc _).alloc _).keeps hk1);have hlk:(Instr.lookup 136 (.map (some w.heap.size)) (.agg #[.int .i64 l[k].holder,.int .i64 l[k].entity,.int .i64 l[k].date,.int .i64 0]) false).run Tryz.prog w1=.ok (.bool ((l.take k).any (fun a=>sameH a l[k]))) w1:=(by have:=HM1.out.look Tryz.underlying136 (fun w=>Tryz.zeroValue4 w) hkok _ rfl;rw [seenH_get] at this;exact this);(try rw [HS.out] at hlk);have K1:=Lib.hid (((HW.out.1.alloc (.cells #[.int .i64 l[k].holder,.int .i64 l[k].entity,.int .i64 l[k].date,.int .i64 l[k].share] 101)).alloc (.cells #[.int .i64 l[k].holder,.int .i64 l[k].entity,.int .i64 l[k].date,.int .i64 0] 101)).trans hk1);clear hk1)
      go_ret
      rw [HQ.out]
      exact ⟨rfl,K1.out⟩
     | false=>
      rw [hs] at hokk
      have HOK:=Lib.hid hokk
      have HS:=Lib.hid hs
      clear hokk hs
      go_wp2_with (first | (go_at_call 66;refine (HP.out _).mono ?_;rintro en w1 ⟨rfl,hk1⟩;have x0:=hk1.cell (p:=⟨wr.heap.size+1,0,none⟩) (v:=.int .i64 l[k].holder) (by go_simp);have x1:=hk1.cell (p:=⟨wr.heap.size+1,1,none⟩) (v:=.int .i64 l[k].entity) (by go_simp);have x2:=hk1.cell (p:=⟨wr.heap.size+1,2,none⟩) (v:=.int .i64 l[k].date) (by go_simp);have x3:=hk1.cell (p:=⟨wr.heap.size+1,3,none⟩) (v:=.int .i64 0) (by go_simp);have HM1:Hid (VMap holK w1 w.heap.size k (seenH (l.take k))):=Lib.hid (((HW.out.2.alloc _).alloc _).keeps hk1);have hlk:(Instr.lookup 136 (.map (some w.heap.size)) (.agg #[.int .i64 l[k].holder,.int .i64 l[k].entity,.int .i64 l[k].date,.int .i64 0]) false).run Tryz.prog w1=.ok (.bool ((l.take k).any (fun a=>sameH a l[k]))) w1:=(by have:=HM1.out.look Tryz.underlying136 (fun w=>Tryz.zeroValue4 w) hkok _ rfl;rw [seenH_get] at this;exact this);(try rw [HS.out] at hlk);have K1:=Lib.hid (((HW.out.1.alloc (.cells #[.int .i64 l[k].holder,.int .i64 l[k].entity,.int .i64 l[k].date,.int .i64 l[k].share] 101)).alloc (.cells #[.int .i64 l[k].holder,.int .i64 l[k].entity,.int .i64 l[k].date,.int .i64 0] 101)).trans hk1);clear hk1) | (refine wpList_vstore (K:=holK) rfl _ _ _ 136 rfl Tryz.underlying136 w.heap.size k rfl HM1.out (by unfold maxLen;omega) (keyH l[k]) hkok rfl (.bool true) rfl (seenH (l.take (k+1))) (by rw [take_snoc _ _ hlt];exact (seenH_snoc _ _).1) (fun d _ hd=>by rw [take_snoc _ _ hlt];exact (seenH_snoc _ _).2 d hd) ?_;intro w4 hm4 hg4;have HX:Hid (Keeps w w4∧VMap holK w4 w.heap.size (k+1) (seenH (l.take (k+1)))):=Lib.hid ⟨Below.grown K1.out hg4 K1.out.size (fun j hj=>by cases hj;exact Nat.le_refl _),hm4⟩;clear hm4 hg4))
      go_roundw
      case rel=>exact ⟨k+1,by omega,by go_num,Lib.hid (fun j hj=>by
       rcases Nat.lt_succ_iff_lt_or_eq.1 hj with h | rfl
       ·exact HN.out j h
       ·exact HOK.out),HX⟩
      case measure=>simp [intOf];omega
   ·obtain rfl:k=l.length:=by omega
    have HR:=Lib.hid (hvalidB_rest h1 h2 h3 HN.out)
    have hpr:=okH_proper HN.out
    have HPR:=Lib.hid hpr
    have HT:Hid (∀ (e d:Int) W,Hols W ao l cap b o→Calls Tryz.prog 68 #[.slice ao l.length cap,.int .i64 e,.int .i64 d] W fun en w'=>en=.returned (.int .i64 (totH l e d))∧Keeps W w'):=Lib.hid (fun e d W h=>total_any ao l cap b o e d W h hlen (ShB.of hpr) (fun x hx=>(HO.out x hx).1))
    have HKW:=Lib.hid HW.out.1
    clear hpr HW HN
    go_wp2_with (go_at_call 67;refine (hdates_any ao l cap b o _ (HH.out.keeps HKW.out) hlen (fun x hx=>(HO.out x hx).2.2.1)).mono ?_;rintro en w2 ⟨v,xs,rfl,⟨ao3,cap3,b3,o3,rfl,hs3⟩,hd,hk2⟩;have HD:=Lib.hid hd;have HS3:=Lib.hid hs3;have HK2:=Lib.hid (HKW.out.trans hk2);have hcap3:=hs3.cap;have hle3:=hs3.le;clear hd hs3 hk2)
    go_loopw [47] (fun vi wy=>∃ j:Nat,j≤xs.length∧vi=.int .i64 j∧Hid (∀ i (hi:i < xs.length),i < j→∀ e:Int,0≤e→e < n→totH l e xs[i]≤10000)∧Hid (Keeps w2 wy)) (fun vi _=>xs.length - (intOf vi).toNat)
    case atStart=>exact ⟨0,Nat.zero_le _,rfl,Lib.hid (fun i _ h=>absurd h (Nat.not_lt_zero _)),Lib.hid (Keeps.refl w2)⟩
    case round=>
     obtain ⟨j,hj,rfl,HJ,HY⟩:=hrel
     obtain ⟨wo,rfl⟩:∃ wo:World,wo=wr:=⟨_,rfl⟩
     by_cases hjl:j < xs.length
     ·have hSj:=HS3.out.keeps HY.out
      have hix3:=hSj.at1 Tryz.underlying69 Tryz.sizeOf3 j hjl
      have d0:=hSj.int j hjl
      clear hSj
      go_wp2_with fail
      go_loopw [52] (fun ve wz=>∃ e:Nat,(e:Int)≤n∧ve=.int .i64 e∧Hid (∀ a:Int,0≤a→a < (e:Int)→totH l a xs[j]≤10000)∧Hid (Keeps wo wz)) (fun ve _=>(n - intOf ve).toNat)
      case atStart=>exact ⟨0,by omega,rfl,Lib.hid (fun a h1 h2=>by omega),Lib.hid (Keeps.refl wo)⟩
      case round=>
       obtain ⟨e,he,rfl,HE,HZ⟩:=hrel
       by_cases hen:(e:Int) < n
       ·by_cases ht:totH l e xs[j]≤10000
        ·have ht2:decide (10000 < totH l (e:Int) xs[j])=false:=decide_eq_false (by omega)
         have HE2:Hid (∀ a:Int,0≤a→a < ((e+1:Nat):Int)→totH l a xs[j]≤10000):=Lib.hid (fun a h1 h2=>by
          by_cases hae:a=(e:Int)
          ·rw [hae];exact ht
          ·exact HE.out a h1 (by omega))
         clear ht
         go_wp2_with (go_at_call 68;refine (HT.out _ _ _ (HH.out.keeps (HK2.out.trans (HY.out.trans HZ.out)))).mono ?_;rintro en w5 ⟨rfl,hk5⟩;have HZ5:=Lib.hid (HZ.out.trans hk5);clear hk5)
         go_roundw
         case rel=>exact ⟨e+1,by omega,by go_num,HE2,HZ5⟩
         case measure=>simp [intOf];omega
        ·have ht2:decide (10000 < totH l (e:Int) xs[j])=true:=decide_eq_true (by omega)
         have HQ:=Lib.hid (HR.out.trans (sums_bad ht))
         clear ht
         go_wp2_with (go_at_call 68;refine (HT.out _ _ _ (HH.out.keeps (HK2.out.trans (HY.out.trans HZ.out)))).mono ?_;rintro en w5 ⟨rfl,hk5⟩;have HZ5:=Lib.hid (HZ.out.trans hk5);clear hk5)
         go_ret
         rw [HQ.out]
         exact ⟨rfl,HK2.out.trans (HY.out.trans HZ5.out)⟩
       ·have hee:(e:Int)=n:=by omega
        have HJ2:Hid (∀ i (hi:i < xs.length),i < j+1→∀ e:Int,0≤e→e < n→totH l e xs[i]≤10000):=Lib.hid (fun i hi hij a ha hb=>by
         rcases Nat.lt_succ_iff_lt_or_eq.1 hij with h | rfl
         ·exact HJ.out i hi h a ha hb
         ·exact HE.out a ha (by omega))
        clear hee
        go_wp2_with fail
        go_roundw
        case rel=>exact ⟨j+1,by omega,by go_num,HJ2,Lib.hid (HY.out.trans HZ.out)⟩
        case measure=>simp [intOf];omega
     ·obtain rfl:j=xs.length:=by omega
      have HQ:=Lib.hid (HR.out.trans (sums_good (fun x hx=>by
       have hp:=properB_true (HPR.out x hx)
       obtain ⟨i,hi,hie⟩:=List.getElem_of_mem ((HD.out.2 x.date).2 ⟨x,hx,rfl⟩)
       rw [← hie]
       exact HJ.out i hi hi x.entity hp.2.2.1 hp.2.2.2.1)))
      go_wp2_with fail
      go_ret
      rw [HQ.out]
      exact ⟨rfl,HK2.out.trans HY.out⟩
 ·have HQ:=Lib.hid (hvalidB_size (n:=n) (l:=l) hs)
  by_cases h1:n < 1
  ·go_enter Tryz.func39,Tryz.ntmps39
   go_wp2
   go_ret
   rw [HQ.out]
   exact ⟨rfl,Keeps.refl w⟩
  ·by_cases h2:12 < n
   ·go_enter Tryz.func39,Tryz.ntmps39
    go_wp2
    go_ret
    rw [HQ.out]
    exact ⟨rfl,Keeps.refl w⟩
   ·have h3:200 < l.length:=by omega
    clear hs
    go_enter Tryz.func39,Tryz.ntmps39
    go_wp2
    go_ret
    rw [HQ.out]
    exact ⟨rfl,Keeps.refl w⟩
end Go.Proofs.YtoaidbhiciaeaaaGreat

end
section
namespace Go.Proofs.YtoaidbhiciaeaaaGreat
section
variable {P:Program} {ops:Array Oper} {Q:Exit→Act→World→Prop} {R:World→World→Prop}
def putAll (ops:Array Oper) (a:Act) (f:Nat→Value):Nat→Act
 | 0=>a
 | n+1=>(putAll ops a f n).put ((ops[n]?).bind (·.dst)) (f n)
def dstsApart (ops:Array Oper):Bool:=
 (List.range ops.size).all fun i=>(List.range i).all fun j=>match (ops[i]?).bind (·.dst) with
  | some d=>(ops[j]?).bind (·.dst) != some d
  | none=>true
theorem dstsApart_spec (h:dstsApart ops=true) {i j:Nat} (hi:i < ops.size) (hj:j < i):∀ d,(ops[i]?).bind (·.dst)=some d→(ops[j]?).bind (·.dst)≠some d:=by
 intro d hd
 have h1:=List.all_eq_true.1 h i (List.mem_range.2 hi)
 have h2:=List.all_eq_true.1 h1 j (List.mem_range.2 hj)
 rw [hd] at h2
 simpa using h2
theorem put_put (a:Act) (x:Option Tmp) (v u:Value):(a.put x v).put x u=a.put x u:=by
 cases x with
 | none=>rfl
 | some d=>simp [Act.put]
theorem putAll_same {a:Act} {f g:Nat→Value}:∀ {n:Nat},(∀ j < n,f j=g j)→putAll ops a f n=putAll ops a g n
 | 0,_=>rfl
 | n+1,h=>by simp only [putAll];rw [putAll_same (fun j hj=>h j (by omega)),h n (by omega)]
theorem putAll_upd (hd:dstsApart ops=true) {a:Act} {f g:Nat→Value} {i:Nat} {v:Value} (hg:∀ j,j≠i→g j=f j) (hv:g i=v):∀ {n:Nat},i < n→n≤ops.size →
  putAll ops a g n=(putAll ops a f n).put ((ops[i]?).bind (·.dst)) v
 | 0,h,_=>absurd h (Nat.not_lt_zero _)
 | n+1,h,hn=>by
  simp only [putAll]
  by_cases hin:i=n
  ·subst hin
   rw [putAll_same (f:=g) (g:=f) (fun j hj=>hg j (by omega)),put_put,hv]
  ·rw [putAll_upd hd hg hv (n:=n) (by omega) (by omega),hg n (fun e=>hin e.symm)]
   refine Act.put_comm _ _ _ fun d h1 h2=>?_
   exact dstsApart_spec hd (i:=n) (j:=i) (by omega) (by omega) d h2 h1
theorem put_self (a:Act) (x:Option Tmp):a.put x (match x with | some d=>a.tmps.getD d undef | none=>undef)=a:=by
 cases x with
 | none=>rfl
 | some d=>
  obtain ⟨t,de⟩:=a
  simp only [Act.put]
  congr 1
  by_cases h:d < t.size
  ·have e:t.getD d undef=t[d]:=by simp [h]
   rw [e,Array.setIfInBounds,dif_pos h,Array.set_getElem_self]
  ·simp [Array.setIfInBounds,h]
theorem putAll_self {a:Act} {f:Nat→Value} (hf:∀ i,f i=(match (ops[i]?).bind (·.dst) with | some d=>a.tmps.getD d undef | none=>undef)):∀ n,putAll ops a f n=a
 | 0=>rfl
 | n+1=>by simp only [putAll];rw [putAll_self hf n,hf n];exact put_self a _
def Holds (V:Nat→World→Value→Prop) (f:Nat→Value) (w:World):List Nat→Prop
 | []=>True
 | j :: js=>V j w (f j)∧Holds V f w js
theorem Holds.of {V:Nat→World→Value→Prop} {f:Nat→Value} {w:World}:∀ {l:List Nat},(∀ j∈l,V j w (f j))→Holds V f w l
 | [],_=>trivial
 | j :: js,h=>⟨h j (by simp),Holds.of fun k hk=>h k (by simp [hk])⟩
theorem Holds.get {V:Nat→World→Value→Prop} {f:Nat→Value} {w:World}:∀ {l:List Nat},Holds V f w l→∀ j∈l,V j w (f j)
 | j :: js,h,k,hk=>by
  rcases List.mem_cons.1 hk with rfl | hk
  ·exact h.1
  ·exact h.2.get k hk
def also (V:Nat→World→Value→Prop) (k:Nat) (W:World→Value→Prop):Nat→World→Value→Prop:=fun j=>bif Nat.beq j k then W else V j
theorem also_same {V:Nat→World→Value→Prop} {k:Nat} {W:World→Value→Prop}:also V k W k=W:=by simp [also]
theorem also_ne {V:Nat→World→Value→Prop} {k j:Nat} {W:World→Value→Prop} (h:j≠k):also V k W j=V j:=by
 unfold also
 have:Nat.beq j k=false:=by (cases e:Nat.beq j k;rfl;exact absurd (Nat.eq_of_beq_eq_true e) h)
 rw [this];rfl
def noneYet:Nat→World→Value→Prop:=fun _ _ _=>True
def depsOk (ops:Array Oper) (D:List (List Nat)):Bool:=
 (List.range ops.size).all fun i=>(D.getD i []).all fun j=>
  j < i && (match ops[i]? with
   | some o=>o.after.any fun e=>Region.binds .any e && (e.on == j || (D.getD e.on []).contains j)
   | none=>false)
def StepOk (P:Program) (ops:Array Oper) (Q:Exit→Act→World→Prop) (R:World→World→Prop) (o:Oper) (A:Act) (w':World) (V:World→Value→Prop):Prop:=
 if Region.wanted o (yielded ops A.tmps)=true then o.wp P A w' (fun a2 w2=>∃ v,a2=A.put o.dst v∧V w2 v∧R w' w2) Q else V w' undef
inductive Steps (P:Program) (ops:Array Oper) (Q:Exit→Act→World→Prop) (R:World→World→Prop) (A:(Nat→Value)→Act) (w:World) (D:List (List Nat)):Nat→(Nat→World→Value→Prop)→Prop
 | last {V:Nat→World→Value→Prop} (h:∀ f w',R w w'→(∀ j < ops.size,V j w' (f j))→Q .normal (A f) w'):Steps P ops Q R A w D ops.size V
 | cons {k:Nat} {V:Nat→World→Value→Prop} {o:Oper} (W:World→Value→Prop) (ho:ops[k]?=some o) (hst:∀ w1 w2 v,R w1 w2→W w1 v→W w2 v)
   (h:∀ f w',R w w'→Holds V f w' (D.getD k [])→StepOk P ops Q R o (A f) w' W) (hr:Steps P ops Q R A w D (k+1) (also V k W)):Steps P ops Q R A w D k V
theorem Steps.le {A:(Nat→Value)→Act} {w:World} {D:List (List Nat)} {k:Nat} {V:Nat→World→Value→Prop} (h:Steps P ops Q R A w D k V):k≤ops.size:=by
 induction h with
 | last h=>exact Nat.le_refl _
 | cons W ho hst h hr ih=>omega
def edgesOk (ops:Array Oper):Bool:=
 (List.range ops.size).all fun i=>match ops[i]? with
  | some o=>o.after.all fun e=>!Region.binds .any e || decide (e.on < i)
  | none=>true
theorem edgesOk_spec (h:edgesOk ops=true) {i:Nat} {o:Oper} (ho:ops[i]?=some o) {e:Edge} (he:e∈o.after) (hb:Region.binds .any e=true):e.on < i:=by
 have h1:=List.all_eq_true.1 h i (List.mem_range.2 (Array.getElem?_eq_some_iff.1 ho).1)
 simp only [ho,Array.all_eq_true_iff_forall_mem] at h1
 have h2:=h1 e he
 rw [hb] at h2
 simpa using h2
theorem depsOk_spec {D:List (List Nat)} (h:depsOk ops D=true) {i j:Nat} {o:Oper} (ho:ops[i]?=some o) (hj:j∈D.getD i []) :
  j < i∧∃ e∈o.after,Region.binds .any e=true∧(e.on=j∨j∈D.getD e.on []):=by
 have h1:=List.all_eq_true.1 h i (List.mem_range.2 (Array.getElem?_eq_some_iff.1 ho).1)
 have h2:=List.all_eq_true.1 h1 j hj
 rw [Bool.and_eq_true,decide_eq_true_eq] at h2
 obtain ⟨h3,h2⟩:=h2
 simp only [ho] at h2
 rw [Array.any_eq_true'] at h2
 obtain ⟨e,he,hb⟩:=h2
 rw [Bool.and_eq_true] at hb
 refine ⟨h3,e,he,hb.1,?_⟩
 have:=hb.2
 rw [Bool.or_eq_true] at this
 rcases this with h | h
 ·exact .inl (by simpa using h)
 ·exact .inr (by simpa using h)
theorem Steps.all {A:(Nat→Value)→Act} {w:World} {D:List (List Nat)} (hD:depsOk ops D=true) {k:Nat} {V:Nat→World→Value→Prop} (hs:Steps P ops Q R A w D k V) :
  ∃ U:Nat→World→Value→Prop,(∀ j < k,U j=V j)∧
   (∀ i o,k≤i→ops[i]?=some o→(∀ w1 w2 v,R w1 w2→U i w1 v→U i w2 v)∧
    ∀ f w',R w w'→Holds U f w' (D.getD i [])→StepOk P ops Q R o (A f) w' (U i))∧
   (∀ f w',R w w'→(∀ j < ops.size,U j w' (f j))→Q .normal (A f) w'):=by
 induction hs with
 | last h=>exact ⟨_,fun _ _=>rfl,fun i o hi ho=>absurd (Array.getElem?_eq_some_iff.1 ho).1 (by omega),h⟩
 | @cons k V o W ho hst h hr ih=>
  obtain ⟨U,hU,h1,h2⟩:=ih
  have hUk:U k=W:=(hU k (by omega)).trans also_same
  refine ⟨U,fun j hj=>(hU j (by omega)).trans (also_ne (by omega)),fun i oi hi hoi=>?_,h2⟩
  by_cases hk:i=k
  ·subst hk
   rw [ho] at hoi
   obtain rfl:o=oi:=by simpa using hoi
   rw [hUk]
   refine ⟨hst,fun f w' hw hH=>h f w' hw (Holds.of fun j hj=>?_)⟩
   have hji:=(depsOk_spec hD ho hj).1
   have:=hH.get j hj
   rw [hU j (by omega),also_ne (by omega)] at this
   exact this
  ·exact h1 i oi (by omega) hoi
def unl (listed:Array Bool):Nat→Nat
 | 0=>0
 | n+1=>unl listed n+(if listed.getD n false=true then 0 else 1)
theorem unl_ge {listed:Array Bool} {i:Nat}:∀ {n:Nat},n≤i→unl (listed.setIfInBounds i true) n=unl listed n
 | 0,_=>rfl
 | n+1,h=>by simp only [unl];rw [unl_ge (by omega),getD_set_ne false (by omega)]
theorem unl_set {listed:Array Bool} {i:Nat} (hi:i < listed.size) (hu:listed.getD i false=false):∀ {n:Nat},i < n→unl (listed.setIfInBounds i true) n+1=unl listed n
 | 0,h=>absurd h (Nat.not_lt_zero _)
 | n+1,h=>by
  simp only [unl]
  by_cases hin:i=n
  ·subst hin
   rw [unl_ge (Nat.le_refl _),hu]
   have:(listed.setIfInBounds i true).getD i false=true:=by simp [hi]
   rw [this];simp
  ·rw [getD_set_ne false hin]
   have:=unl_set hi hu (n:=n) (by omega)
   omega
theorem unl_zero {listed:Array Bool}:∀ {n:Nat},unl listed n=0→∀ i < n,listed.getD i false=true
 | 0,_,i,hi=>absurd hi (Nat.not_lt_zero _)
 | n+1,h,i,hi=>by
  simp only [unl] at h
  by_cases hin:i=n
  ·subst hin
   by_cases hc:listed.getD i false=true
   ·exact hc
   ·rw [if_neg hc] at h;omega
  ·exact unl_zero (n:=n) (by omega) i (by omega)
theorem getD_tf {listed:Array Bool} {i:Nat} (hi:i < listed.size):listed.getD i true=listed.getD i false:=by simp [hi]
theorem ready_of_unl (he:edgesOk ops=true) {listed:Array Bool} (hs:listed.size=ops.size) (h:Region.ready .any ops listed=[]):∀ i < ops.size,listed.getD i false=true:=by
 intro i
 induction i using Nat.strongRecOn with
 | ind i ih=>
  intro hi
  by_cases hc:listed.getD i false=true
  ·exact hc
  ·have:i∈Region.ready .any ops listed:=mem_ready.2 ⟨by rw [getD_tf (by omega)];simpa using hc,ops[i],Array.getElem?_eq_some_iff.2 ⟨hi,rfl⟩,fun e hem hb=>by
    have:=edgesOk_spec he (Array.getElem?_eq_some_iff.2 ⟨hi,rfl⟩) hem hb
    exact ih _ this (by omega)⟩
   rw [h] at this;cases this
theorem steps_any {w:World} {A:(Nat→Value)→Act} {a:Act} {D:List (List Nat)} (hd:dstsApart ops=true) (he:edgesOk ops=true) (hD:depsOk ops D=true) (hA:∀ f,putAll ops a f ops.size=A f)
  (hR0:∀ w,R w w) (hR:∀ w1 w2 w3,R w1 w2→R w2 w3→R w1 w3) (U:Nat→World→Value→Prop)
  (h1:∀ i o,ops[i]?=some o→(∀ w1 w2 v,R w1 w2→U i w1 v→U i w2 v)∧
    ∀ f w',R w w'→Holds U f w' (D.getD i [])→StepOk P ops Q R o (A f) w' (U i))
  (h2:∀ f w',R w w'→(∀ j < ops.size,U j w' (f j))→Q .normal (A f) w') :
  ∀ (fuel:Nat) (listed:Array Bool) (f:Nat→Value) (w':World),listed.size=ops.size→(∀ i < ops.size,listed.getD i false=true→U i w' (f i)) →
   (∀ i o,ops[i]?=some o→listed.getD i false=true→∀ e∈o.after,Region.binds .any e=true→listed.getD e.on false=true) →
   R w w'→unl listed ops.size≤fuel→wpAny P .any ops Q fuel listed (A f) w':=by
 intro fuel
 have fin:∀ (listed:Array Bool) (f:Nat→Value) (w':World),(∀ i < ops.size,listed.getD i false=true)→(∀ i < ops.size,listed.getD i false=true→U i w' (f i))→R w w'→Q .normal (A f) w':=by
  intro listed f w' hall hV hw
  exact h2 f w' hw fun j hj=>hV j hj (hall j hj)
 induction fuel with
 | zero=>
  intro listed f w' hs hV _ hw hf
  have hall:=unl_zero (Nat.le_zero.1 hf)
  refine ⟨?_,fin listed f w' hall hV hw⟩
  refine List.eq_nil_iff_forall_not_mem.2 fun i hi=>?_
  obtain ⟨h0,o,ho,_⟩:=mem_ready.1 hi
  have hlt:=(Array.getElem?_eq_some_iff.1 ho).1
  rw [getD_tf (by omega),hall i hlt] at h0
  cases h0
 | succ fuel ih=>
  intro listed f w' hs hV hcl hw hf
  refine ⟨fun hr=>fin listed f w' (ready_of_unl he hs hr) hV hw,fun i hi=>?_⟩
  obtain ⟨h0,o,ho,hall⟩:=mem_ready.1 hi
  have hlt:=(Array.getElem?_eq_some_iff.1 ho).1
  rw [getD_tf (by omega)] at h0
  obtain ⟨hst,hstep⟩:=h1 i o ho
  -- the deps are listed
  have hdep:∀ n,∀ j o',j≤n→ops[j]?=some o'→(∀ e∈o'.after,Region.binds .any e=true→listed.getD e.on false=true)→∀ k∈D.getD j [],k < ops.size∧listed.getD k false=true:=by
   intro n
   induction n with
   | zero=>
    intro j o' hj ho' hl k hk
    have:=(depsOk_spec hD ho' hk).1
    omega
   | succ n ihn=>
    intro j o' hj ho' hl k hk
    have hjlt:=(Array.getElem?_eq_some_iff.1 ho').1
    obtain ⟨hkj,e,hem,hb,hor⟩:=depsOk_spec hD ho' hk
    rcases hor with rfl | hin
    ·exact ⟨by omega,hl e hem hb⟩
    ·have hej:=edgesOk_spec he ho' hem hb
     have hoe:ops[e.on]?=some (ops[e.on]'(by omega)):=Array.getElem?_eq_some_iff.2 ⟨by omega,rfl⟩
     exact ihn e.on _ (by omega) hoe (hcl e.on _ hoe (hl e hem hb)) k hin
  have hH:Holds U f w' (D.getD i []):=by
   refine Holds.of fun j hj=>?_
   obtain ⟨ha,hb⟩:=hdep i i o (Nat.le_refl _) ho hall j hj
   exact hV j ha hb
  have hs1:=hstep f w' hw hH
  have key:∀ v w2,U i w2 v→R w' w2→wpAny P .any ops Q fuel (listed.setIfInBounds i true) ((A f).put o.dst v) w2:=by
   intro v w2 hv hr2
   have hg:A (fun j=>if j=i then v else f j)=(A f).put o.dst v:=by
    rw [← hA,← hA,putAll_upd hd (f:=f) (i:=i) (v:=v) (fun j hj=>by simp [hj]) (by simp) hlt (Nat.le_refl _),ho]
    rfl
   rw [← hg]
   refine ih _ _ w2 (by simpa using hs) (fun j hj hl=>?_) (fun j oj hoj hl e hem hb=>?_) (hR _ _ _ hw hr2) (by have:=unl_set (by omega) h0 hlt;omega)
   ·by_cases hji:j=i
    ·subst hji;simpa using hv
    ·rw [getD_set_ne false (fun e=>hji e.symm)] at hl
     simp only [hji,if_false]
     exact (h1 j _ (Array.getElem?_eq_some_iff.2 ⟨hj,rfl⟩)).1 w' w2 _ hr2 (hV j hj hl)
   ·by_cases hji:j=i
    ·subst hji
     rw [ho] at hoj
     obtain rfl:o=oj:=by simpa using hoj
     exact getD_set_true (hall e hem hb)
    ·rw [getD_set_ne false (fun e=>hji e.symm)] at hl
     exact getD_set_true (hcl j oj hoj hl e hem hb)
  unfold wpOp
  simp only [ho]
  unfold StepOk at hs1
  split
  ·rename_i hw1
   rw [if_pos hw1] at hs1
   refine .inl (Oper.wp_mono ?_ hs1)
   rintro a2 w2 ⟨v,rfl,hv,hr2⟩
   exact key v w2 hv hr2
  ·rename_i hw1
   rw [if_neg hw1] at hs1
   exact key undef w' hs1 (hR0 w')
def putL (f:Nat→Value):List (Option Tmp)→Nat→Act→Act
 | [],_,a=>a
 | d :: ds,i,a=>putL f ds (i+1) (a.put d (f i))
theorem putL_append {f:Nat→Value}:∀ (x y:List (Option Tmp)) (i:Nat) (a:Act),putL f (x ++ y) i a=putL f y (i+x.length) (putL f x i a)
 | [],_,_,_=>rfl
 | d :: x,y,i,a=>by
  rw [List.cons_append,putL,putL_append x y,putL,List.length_cons]
  congr 1
  omega
theorem putAll_putL {a:Act} {f:Nat→Value}:∀ n≤ops.size,putAll ops a f n=putL f ((ops.toList.map (·.dst)).take n) 0 a
 | 0,_=>by simp [putAll,putL]
 | n+1,h=>by
  rw [putAll,putAll_putL n (by omega)]
  have hn:n < (ops.toList.map (·.dst)).length:=by simp;omega
  rw [List.take_succ_eq_append_getElem hn,putL_append]
  have:ops[n]?=some ops[n]:=by simp
  simp [putL,Nat.min_eq_left (show n≤ops.size by omega),this]
theorem wp_region_steps {id:Nat} {a:Act} {w:World} {A:(Nat→Value)→Act} (R:World→World→Prop) (ds:List (Option Tmp)) (D:List (List Nat)) (n:Nat) (hm:P.follows .mixedOrders=true)
  (hds:ops.toList.map (·.dst)=ds) (_hn:ops.size=n) (hd:dstsApart ops=true) (he:edgesOk ops=true) (hD:depsOk ops D=true) (hR0:∀ w,R w w) (hR:∀ w1 w2 w3,R w1 w2→R w2 w3→R w1 w3)
  (hA:∀ f,putL f ds 0 a=A f) (h:Steps P ops Q R A w.drew D 0 noneYet):(Code.region id ops true).wp P Q a w:=by
 obtain ⟨U,_,h1,h2⟩:=h.all hD
 have hA':∀ f,putAll ops a f ops.size=A f:=fun f=>by
  rw [putAll_putL _ (Nat.le_refl _),← hA,← hds]
  rw [List.take_of_length_le (by simp)]
 refine wp_region_any hm ?_
 have h0:=putAll_self (ops:=ops) (a:=a) (f:=fun i=>(match (ops[i]?).bind (·.dst) with | some d=>a.tmps.getD d undef | none=>undef)) (fun i=>rfl) ops.size
 rw [hA'] at h0
 rw [← h0]
 refine steps_any hd he hD hA' hR0 hR U (fun i o ho=>h1 i o (Nat.zero_le _) ho) h2 _ _ _ _ (by simp) (fun i hi hl=>?_) (fun i o ho hl=>?_) (hR0 _) ?_
 ·simp [hi] at hl
 ·have:=(Array.getElem?_eq_some_iff.1 ho).1
  simp [this] at hl
 ·have:∀ (l:Array Bool) k,unl l k≤k:=by
   intro l k
   induction k with
   | zero=>exact Nat.le_refl _
   | succ k ih=>simp only [unl];split <;> omega
  exact this _ _
section
variable {A:(Nat→Value)→Act} {w:World} {D:List (List Nat)} {k:Nat} {V:Nat→World→Value→Prop} {o:Oper}
theorem Steps.done (E:List Nat) (hE:E.all (fun j=>decide (j < ops.size))=true) (hk:ops.size=k) (h:∀ f w',R w w'→Holds V f w' E→Q .normal (A f) w'):Steps P ops Q R A w D k V:=by
 subst hk
 exact .last fun f w' hw hV=>h f w' hw (Holds.of fun j hj=>hV j (by simpa using List.all_eq_true.1 hE j hj))
theorem Steps.pure (v:Value) (hR0:∀ w,R w w) (ho:ops[k]?=some o)
  (hw:∀ f w',R w w'→Holds V f w' (D.getD k [])→Region.wanted o (yielded ops (A f).tmps)=true∧(execOp (A f).eval o).run P w'=.ok (.value v) w') (hr:Steps P ops Q R A w D (k+1) (also V k (fun _ u=>u=v))):Steps P ops Q R A w D k V:=by
 refine .cons _ ho (fun _ _ _ _ h=>h) (fun f w' h1 h2=>?_) hr
 obtain ⟨h3,h4⟩:=hw f w' h1 h2
 unfold StepOk
 rw [if_pos h3]
 unfold Oper.wp
 rw [h4]
 exact ⟨v,rfl,rfl,hR0 _⟩
theorem Steps.skip (ho:ops[k]?=some o)
  (hw:∀ f w',R w w'→Holds V f w' (D.getD k [])→Region.wanted o (yielded ops (A f).tmps)=false) (hr:Steps P ops Q R A w D (k+1) (also V k (fun _ u=>u=undef))):Steps P ops Q R A w D k V:=by
 refine .cons _ ho (fun _ _ _ _ h=>h) (fun f w' h1 h2=>?_) hr
 unfold StepOk
 rw [if_neg (by rw [hw f w' h1 h2];simp)]
def StepPost (R:World→World→Prop) (A:Act) (o:Oper) (W:World→Value→Prop) (w':World):Act→World→Prop:=fun a2 w2=>∃ v,a2=A.put o.dst v∧W w2 v∧R w' w2
theorem StepPost.of {B:Act} {W:World→Value→Prop} {w1 w2:World} {a2:Act} (v:Value) (h:a2=B.put o.dst v) (hW:W w2 v) (hr:R w1 w2):StepPost R B o W w1 a2 w2:=⟨v,h,hW,hr⟩
theorem Steps.call (W:World→Value→Prop) (ho:ops[k]?=some o) (hst:∀ w1 w2 v,R w1 w2→W w1 v→W w2 v)
  (hw:∀ f w',R w w'→Holds V f w' (D.getD k [])→Region.wanted o (yielded ops (A f).tmps)=true∧o.wp P (A f) w' (StepPost R (A f) o W w') Q) (hr:Steps P ops Q R A w D (k+1) (also V k W)):Steps P ops Q R A w D k V:=by
 refine .cons _ ho hst (fun f w' h1 h2=>?_) hr
 obtain ⟨h3,h4⟩:=hw f w' h1 h2
 unfold StepOk
 rw [if_pos h3]
 exact h4
end
theorem want_yes {o:Oper} {a:Act} {j t:Nat} {b:Bool} {x:Value} (hg:o.guard=some (j,b)) (ht:(ops[j]?).bind (·.dst)=some t) (hx:a.tmps[t]?=some x) (hv:x=.bool b):Region.wanted o (yielded ops a.tmps)=true:=by
 subst hv
 simp [Region.wanted,hg,yielded,ht,hx]
theorem want_no {o:Oper} {a:Act} {j t:Nat} {b c:Bool} {x:Value} (hg:o.guard=some (j,b)) (ht:(ops[j]?).bind (·.dst)=some t) (hx:a.tmps[t]?=some x) (hv:x=.bool c) (hc:(c == b)=false):Region.wanted o (yielded ops a.tmps)=false:=by
 subst hv
 simpa [Region.wanted,hg,yielded,ht,hx] using hc
theorem want_undef {o:Oper} {a:Act} {j t:Nat} {b:Bool} {x:Value} (hg:o.guard=some (j,b)) (ht:(ops[j]?).bind (·.dst)=some t) (hx:a.tmps[t]?=some x) (hv:x=undef):Region.wanted o (yielded ops a.tmps)=false:=by
 subst hv
 simp [Region.wanted,hg,yielded,ht,hx,undef]
end
end Go.Proofs.YtoaidbhiciaeaaaGreat

end
