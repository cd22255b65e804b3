/- Walks and plain facts that the claim rests on (HolRVal, HolCloneP, HolSetP, MapB, ClimbW, ClimbPW). No condition. -/
import Derived.Test.YtoaidbhiciaeaaaGreatPo09
import Derived.Test.YtoaidbhiciaeaaaGreatPo01
import Derived.Test.YtoaidbhiciaeaaaGreatPo06
import Derived.Test.YtoaidbhiciaeaaaGreatPo02
import Derived.Test.YtoaidbhiciaeaaaGreatPo07
import Derived.WalkMore
set_option linter.unusedSimpArgs false
set_option linter.unusedVariables false
set_option maxHeartbeats 16000000
section
namespace Go.Proofs.YtoaidbhiciaeaaaGreat
open Go.RowKit
theorem any_take_noH {ls:List Hol} {k:Nat} (hk:k < ls.length) (h:∀ i (hi:i < ls.length),i < k→sameH ls[i] ls[k]=false):(ls.take k).any (fun a=>sameH a ls[k])=false:=by
 rw [Bool.eq_false_iff]
 intro h1
 rw [List.any_eq_true] at h1
 obtain ⟨a,ha,h2⟩:=h1
 obtain ⟨i,hi,rfl⟩:=List.getElem_of_mem ha
 rw [List.length_take] at hi
 rw [List.getElem_take] at h2
 rw [h i (by omega) (by omega)] at h2
 cases h2
theorem any_take_yesH {ls:List Hol} {k i:Nat} (hk:k < ls.length) (hi:i < k) (h:sameH (ls[i]'(by omega)) ls[k]=true):(ls.take k).any (fun a=>sameH a ls[k])=true:=by
 rw [List.any_eq_true]
 refine ⟨ls[i]'(by omega),?_,h⟩
 rw [List.mem_take_iff_getElem]
 exact ⟨i,by omega,rfl⟩
set_option maxRecDepth 100000 in
theorem hrvalid_any (n:Int) (ao:Option Addr) (l:List Hol) (cap b o:Nat) (w:World) (H:Hols w ao l cap b o) (hlen:l.length≤1000) :
  Calls Tryz.prog 51 #[.int .i64 n,.slice ao l.length cap] w fun en w'=>en=.returned (.bool (hvalidB n l))∧Keeps w w':=by
 have hcap:=Sl.cap H
 have hle:=Sl.le H
 have HH:=Lib.hid H
 clear H
 by_cases hs:1≤n∧n≤12∧l.length≤200
 ·obtain ⟨h1,h2,h3⟩:=hs
  go_enter Tryz.func51,Tryz.ntmps51
  go_wp2_with fail
  go_loopw [5] (fun vi wr=>∃ k:Nat,k≤l.length∧vi=.int .i64 k∧Hid (∀ j < k,okH n l j=true)∧Hid (Keeps w wr)) (fun vi _=>l.length - (intOf vi).toNat)
  case atStart=>exact ⟨0,Nat.zero_le _,rfl,Lib.hid (fun j hj=>absurd hj (Nat.not_lt_zero _)),Lib.hid (Keeps.refl w)⟩
  case round=>
   obtain ⟨k,hk,rfl,HN,HW⟩:=hrel
   by_cases hlt:k < l.length
   ·have HL:=HH.out.keeps HW.out
    have hix:=Sl.at HL Tryz.underlying32 Tryz.sizeOf101 k hlt
    have c0:=HL.cell Hol.len k hlt 0 _ rfl
    have c1:=HL.cell Hol.len k hlt 1 _ rfl
    have c2:=HL.cell Hol.len k hlt 2 _ rfl
    have c3:=HL.cell Hol.len k hlt 3 _ rfl
    simp only [Nat.add_zero] at c0
    have hokk:=okH_at (n:=n) hlt
    obtain ⟨pr,hpr⟩:∃ pr,properB n l[k]=pr:=⟨_,rfl⟩
    rw [hpr] at hokk
    have HP:Hid (∀ W,Calls Tryz.prog 87 #[.int .i64 n,.agg #[.int .i64 l[k].holder,.int .i64 l[k].entity,.int .i64 l[k].date,.int .i64 l[k].share]] W fun en w'=>en=.returned (.bool pr)∧Keeps W w'):=Lib.hid (fun W=>by have:=rproperH_any n l[k] W;rw [hpr] at this;exact this)
    clear HL hpr
    cases pr with
    | false=>
     have HQ:=Lib.hid (hvalidB_bad hlt (hokk.trans (Bool.false_and _)))
     clear hokk
     go_wp2_with (go_at_call 87;refine (HP.out _).mono ?_;rintro en w1 ⟨rfl,hk1⟩;have K1:=Lib.hid (HW.out.trans hk1);clear hk1)
     go_ret
     rw [HQ.out]
     exact ⟨rfl,K1.out⟩
    | true=>
     rw [Bool.true_and] at hokk
     have HOK:=Lib.hid hokk
     have HC:=Lib.hid (And.intro c0 (And.intro c1 (And.intro c2 c3)))
     clear hokk
     go_wp2_with (go_at_call 87;refine (HP.out _).mono ?_;rintro en w1 ⟨rfl,hk1⟩;have K1:=Lib.hid (HW.out.trans hk1);clear hk1)
     clear c0 c1 c2 c3
     go_loopw [6] (fun vi wy=>∃ j:Nat,j≤k∧vi=.int .i64 j∧Hid (∀ i (hi:i < l.length),i < j→sameH l[i] l[k]=false)∧Hid (Keeps w1 wy)) (fun vi _=>k - (intOf vi).toNat)
     case atStart=>exact ⟨0,Nat.zero_le _,rfl,Lib.hid (fun i _ h=>absurd h (Nat.not_lt_zero _)),Lib.hid (Keeps.refl w1)⟩
     case round=>
      obtain ⟨j,hj,rfl,HNI,HY⟩:=hrel
      by_cases hjk:j < k
      ·have HLj:=HH.out.keeps (K1.out.trans HY.out)
       have hiy:=Sl.at HLj Tryz.underlying32 Tryz.sizeOf101 j (by omega)
       have HS:Hid (∀ w',Keeps wr.drew w'→(w'.cell? ⟨b,o+k * 4,none⟩=some (.int .i64 l[k].holder)∧w'.cell? ⟨b,o+k * 4+1,none⟩=some (.int .i64 l[k].entity)∧w'.cell? ⟨b,o+k * 4+2,none⟩=some (.int .i64 l[k].date)∧w'.cell? ⟨b,o+k * 4+3,none⟩=some (.int .i64 l[k].share))∧(w'.cell? ⟨b,o+j * 4,none⟩=some (.int .i64 (l[j]'(by omega)).holder)∧w'.cell? ⟨b,o+j * 4+1,none⟩=some (.int .i64 (l[j]'(by omega)).entity)∧w'.cell? ⟨b,o+j * 4+2,none⟩=some (.int .i64 (l[j]'(by omega)).date)∧w'.cell? ⟨b,o+j * 4+3,none⟩=some (.int .i64 (l[j]'(by omega)).share))):=Lib.hid (fun w' h=>by
        have hL:=HH.out.keeps ((K1.out.trans HY.out).drew.trans h)
        have z0:=hL.cell Hol.len k hlt 0 _ rfl
        have y0:=hL.cell Hol.len j (by omega) 0 _ rfl
        simp only [Nat.add_zero] at z0 y0
        exact ⟨⟨z0,hL.cell Hol.len k hlt 1 _ rfl,hL.cell Hol.len k hlt 2 _ rfl,hL.cell Hol.len k hlt 3 _ rfl⟩,⟨y0,hL.cell Hol.len j (by omega) 1 _ rfl,hL.cell Hol.len j (by omega) 2 _ rfl,hL.cell Hol.len j (by omega) 3 _ rfl⟩⟩)
       obtain ⟨sm,hsm⟩:∃ sm,sameH (l[j]'(by omega)) l[k]=sm:=⟨_,rfl⟩
       have HX:Hid (∀ W,Calls Tryz.prog 88 #[.agg #[.int .i64 (l[j]'(by omega)).holder,.int .i64 (l[j]'(by omega)).entity,.int .i64 (l[j]'(by omega)).date,.int .i64 (l[j]'(by omega)).share],.agg #[.int .i64 l[k].holder,.int .i64 l[k].entity,.int .i64 l[k].date,.int .i64 l[k].share]] W fun en w'=>en=.returned (.bool sm)∧Keeps W w'):=Lib.hid (fun W=>by have:=rsame_any (l[j]'(by omega)) l[k] W;rw [hsm] at this;exact this)
       have HSM:=Lib.hid hsm
       clear HLj hsm
       go_wp2_with fail
       refine wp_region_steps (A:=?_) Keeps [some 37,some 38,some 39,some 40,some 41,some 42,some 43,some 44,some 45] [[],[],[0,1],[2],[],[],[4,5],[6],[3,7]] 9 (by kernel_rfl) (by kernel_rfl) (by kernel_rfl) (by kernel_rfl) (by kernel_rfl) (by kernel_rfl) Keeps.refl (fun _ _ _=>Keeps.trans) ?_ ?_
       rotate_left
       ·intro f;simp only [putL,Act.put,List.setIfInBounds_toArray,List.set_cons_zero,List.set_cons_succ,Nat.zero_add,Nat.reduceAdd];exact rfl
       iterate 8 (refine Steps.pure (v:=?_) Keeps.refl rfl (fun f w' hR hV=>⟨?_,?_⟩) ?_;rotate_left;(focus rfl);(focus ((repeat (obtain ⟨hq,hV⟩:=hV;(try replace hq:_=_:=hq)));obtain ⟨⟨z0,z1,z2,z3⟩,⟨y0,y1,y2,y3⟩⟩:=HS.out _ hR;go_simp;all_goals (try with_reducible rfl))))
       refine Steps.call (fun _ v=>v=.bool sm) rfl (fun _ _ _ _ h=>h) (fun f w' hR hV=>⟨?_,?_⟩) ?_
       ·(rfl)
       ·(obtain ⟨h3,h7,_⟩:=hV;replace h3:f 3=_:=h3;replace h7:f 7=_:=h7;obtain ⟨⟨z0,z1,z2,z3⟩,⟨y0,y1,y2,y3⟩⟩:=HS.out _ hR;go_simp;go_at_call 88;refine (HX.out _).mono ?_;rintro e w2 ⟨rfl,hk2⟩;exact StepPost.of _ rfl rfl hk2)
       all_goals (refine Steps.done [8] (by kernel_rfl) rfl (fun f wq hR hV=>?_);obtain ⟨h8,_⟩:=hV;replace h8:f 8=_:=h8;simp only [h8])
       have HR:=Lib.hid (HY.out.drew.trans hR)
       clear hR
       cases sm with
       | true=>
        have HQ:=Lib.hid (hvalidB_bad hlt (HOK.out.trans (by rw [any_take_yesH hlt hjk HSM.out];rfl)))
        go_wp2
        go_ret
        rw [HQ.out]
        exact ⟨rfl,K1.out.trans HR.out⟩
       | false=>
        go_wp2_with fail
        go_roundw
        case rel=>exact ⟨j+1,by omega,by go_num,Lib.hid (fun i hi hij=>by
         rcases Nat.lt_succ_iff_lt_or_eq.1 hij with h | rfl
         ·exact HNI.out i hi h
         ·exact HSM.out),HR⟩
        case measure=>simp [intOf];omega
      ·obtain rfl:j=k:=by omega
       have HOK2:=Lib.hid (HOK.out.trans (by rw [any_take_noH hlt HNI.out]))
       go_wp2_with fail
       go_roundw
       case rel=>exact ⟨j+1,by omega,by go_num,Lib.hid (fun i hi=>by
        rcases Nat.lt_succ_iff_lt_or_eq.1 hi with h | rfl
        ·exact HN.out i h
        ·exact HOK2.out),Lib.hid (K1.out.trans HY.out)⟩
       case measure=>simp [intOf];omega
   ·obtain rfl:k=l.length:=by omega
    have HR:=Lib.hid (hvalidB_rest h1 h2 h3 HN.out)
    have hpr:=okH_proper HN.out
    have HT:Hid (∀ (e d:Int) W,Hols W ao l cap b o→Calls Tryz.prog 89 #[.slice ao l.length cap,.int .i64 e,.int .i64 d] W fun en w'=>en=.returned (.int .i64 (totH l e d))∧Keeps W w'):=Lib.hid (fun e d W h=>rtotal_any ao l cap b o e d W h hlen (ShB.of hpr))
    clear hpr HN
    go_wp2_with fail
    obtain ⟨wo,rfl⟩:∃ wo:World,wo=wr:=⟨_,rfl⟩
    go_loopw [7] (fun vi wy=>∃ j:Nat,j≤l.length∧vi=.int .i64 j∧Hid (∀ i (hi:i < l.length),i < j→totH l l[i].entity l[i].date≤10000)∧Hid (Keeps w wy)) (fun vi _=>l.length - (intOf vi).toNat)
    case atStart=>exact ⟨0,Nat.zero_le _,rfl,Lib.hid (fun i _ h=>absurd h (Nat.not_lt_zero _)),HW⟩
    case round=>
     obtain ⟨j,hj,rfl,HJ,HY⟩:=hrel
     by_cases hjl:j < l.length
     ·have HLj:=HH.out.keeps HY.out
      have hiy:=Sl.at HLj Tryz.underlying32 Tryz.sizeOf101 j hjl
      have HS:Hid (∀ w',Keeps wr.drew w'→w'.cell? ⟨b,o+j * 4+1,none⟩=some (.int .i64 l[j].entity)∧w'.cell? ⟨b,o+j * 4+2,none⟩=some (.int .i64 l[j].date)):=Lib.hid (fun w' h=>by
       have hL:=HH.out.keeps (HY.out.drew.trans h)
       exact ⟨hL.cell Hol.len j hjl 1 _ rfl,hL.cell Hol.len j hjl 2 _ rfl⟩)
      obtain ⟨t,ht⟩:∃ t,totH l l[j].entity l[j].date=t:=⟨_,rfl⟩
      have HX:Hid (∀ W,Hols W ao l cap b o→Calls Tryz.prog 89 #[.slice ao l.length cap,.int .i64 l[j].entity,.int .i64 l[j].date] W fun en w'=>en=.returned (.int .i64 t)∧Keeps W w'):=Lib.hid (fun W h=>by have:=HT.out l[j].entity l[j].date W h;rw [ht] at this;exact this)
      have HTT:=Lib.hid ht
      clear HLj ht
      go_wp2_with fail
      refine wp_region_steps (A:=?_) Keeps [some 52,some 53,some 54,some 55,some 56,some 57,some 58,some 59,some 60,some 61,some 62,some 63,some 64] [[],[],[],[1,2],[3],[4],[],[],[6,7],[8],[9],[0,5,10],[11]] 13 (by kernel_rfl) (by kernel_rfl) (by kernel_rfl) (by kernel_rfl) (by kernel_rfl) (by kernel_rfl) Keeps.refl (fun _ _ _=>Keeps.trans) ?_ ?_
      rotate_left
      ·intro f;simp only [putL,Act.put,List.setIfInBounds_toArray,List.set_cons_zero,List.set_cons_succ,Nat.zero_add,Nat.reduceAdd];exact rfl
      iterate 11 (refine Steps.pure (v:=?_) Keeps.refl rfl (fun f w' hR hV=>⟨?_,?_⟩) ?_;rotate_left;(focus rfl);(focus ((repeat (obtain ⟨hq,hV⟩:=hV;(try replace hq:_=_:=hq)));obtain ⟨y1,y2⟩:=HS.out _ hR;go_simp;all_goals (try with_reducible rfl))))
      refine Steps.call (fun _ v=>v=.int .i64 t) rfl (fun _ _ _ _ h=>h) (fun f w' hR hV=>⟨?_,?_⟩) ?_
      ·(rfl)
      ·(obtain ⟨h0,h5,h10,_⟩:=hV;replace h0:f 0=_:=h0;replace h5:f 5=_:=h5;replace h10:f 10=_:=h10;obtain ⟨y1,y2⟩:=HS.out _ hR;go_simp;go_at_call 89;refine (HX.out _ (HH.out.keeps (HY.out.drew.trans hR))).mono ?_;rintro e w2 ⟨rfl,hk2⟩;exact StepPost.of _ rfl rfl hk2)
      (refine Steps.pure (v:=?_) Keeps.refl rfl (fun f w' hR hV=>⟨?_,?_⟩) ?_;rotate_left;(focus rfl);(focus ((repeat (obtain ⟨hq,hV⟩:=hV;(try replace hq:_=_:=hq)));obtain ⟨y1,y2⟩:=HS.out _ hR;go_simp;all_goals (try with_reducible rfl))))
      all_goals (refine Steps.done [12] (by kernel_rfl) rfl (fun f wq hR hV=>?_);obtain ⟨h12,_⟩:=hV;replace h12:f 12=_:=h12;simp only [h12])
      have HRR:=Lib.hid (HY.out.drew.trans hR)
      clear hR
      by_cases htt:t≤10000
      ·have ht2:decide (10000 < t)=false:=decide_eq_false (by omega)
       go_wp2_with fail
       go_roundw
       case rel=>exact ⟨j+1,by omega,by go_num,Lib.hid (fun i hi hij=>by
        rcases Nat.lt_succ_iff_lt_or_eq.1 hij with h | rfl
        ·exact HJ.out i hi h
        ·rw [HTT.out];exact htt),HRR⟩
       case measure=>simp [intOf];omega
      ·have ht2:decide (10000 < t)=true:=decide_eq_true (by omega)
       have HQ:=Lib.hid (HR.out.trans (sums_bad (by rw [HTT.out];exact htt)))
       go_wp2_with fail
       go_ret
       rw [HQ.out]
       exact ⟨rfl,HRR.out⟩
     ·obtain rfl:j=l.length:=by omega
      have HQ:=Lib.hid (HR.out.trans (sums_good (fun x hx=>by
       obtain ⟨i,hi,rfl⟩:=List.getElem_of_mem hx
       exact HJ.out i hi hi)))
      go_wp2_with fail
      go_ret
      rw [HQ.out]
      exact ⟨rfl,HY.out⟩
 ·have HQ:=Lib.hid (hvalidB_size (n:=n) (l:=l) hs)
  by_cases h1:n < 1
  ·go_enter Tryz.func51,Tryz.ntmps51
   go_wp2
   go_ret
   rw [HQ.out]
   exact ⟨rfl,Keeps.refl w⟩
  ·by_cases h2:12 < n
   ·go_enter Tryz.func51,Tryz.ntmps51
    go_wp2
    go_ret
    rw [HQ.out]
    exact ⟨rfl,Keeps.refl w⟩
   ·have h3:200 < l.length:=by omega
    clear hs
    go_enter Tryz.func51,Tryz.ntmps51
    go_wp2
    go_ret
    rw [HQ.out]
    exact ⟨rfl,Keeps.refl w⟩
end Go.Proofs.YtoaidbhiciaeaaaGreat

end
section
namespace Go.Proofs.YtoaidbhiciaeaaaGreat
open Go.RowKit
theorem own_keepsH {w w':World} {base e size n:Nat} {v:Value} {xs:List Value} (h:w.ownsRow base e size v n xs) (hk:Keeps w w'):w'.ownsRow base e size v n xs:=by
 refine ⟨h.1,?_⟩
 rcases h.2 with hn | ⟨g,cap,cur,hv,hbg,hg,rest⟩
 ·exact .inl hn
 ·exact .inr ⟨g,cap,cur,hv,hbg,(hk.block g (Array.getElem?_eq_some_iff.1 hg).1).trans hg,rest⟩
theorem own_setH {w:World} {base e size n g cap:Nat} {xs:List Value} (h:w.ownsRow base e size (.slice (some ⟨g,0,none⟩) n cap) n xs) (j:Nat) (u:Value) :
  (w.setCell ⟨g,j,none⟩ u).ownsRow base e size (.slice (some ⟨g,0,none⟩) n cap) n (xs.set j u):=by
 obtain ⟨hl,h2⟩:=h
 rcases h2 with ⟨he,_⟩ | ⟨g',cap',cur,he,hb,hg,h1,h3,hs,ht⟩
 ·cases he
 ·simp only [Value.slice.injEq,Option.some.injEq,Addr.mk.injEq] at he
  obtain ⟨⟨rfl,_⟩,_,rfl⟩:=he
  refine ⟨by simpa using hl,.inr ⟨g,cap,cur.setIfInBounds j u,rfl,hb,?_,h1,h3,by simpa using hs,?_⟩⟩
  ·show (w.heap.modify g _)[g]?=_
   rw [Array.getElem?_modify,if_pos rfl,hg]
   rfl
  ·rw [Array.toList_setIfInBounds,List.take_set,ht]
theorem own_shapeH {w:World} {base e size n:Nat} {v:Value} {xs:List Value} (h:w.ownsRow base e size v n xs) (hn:0 < n):∃ g cap,v=.slice (some ⟨g,0,none⟩) n cap∧base≤g∧g < w.heap.size∧∀ j,w.frozen? ⟨g,j,none⟩=false:=by
 rcases h.2 with ⟨_,h0⟩ | ⟨g,cap,cur,he,hb,hg,_⟩
 ·omega
 ·exact ⟨g,cap,he,hb,(Array.getElem?_eq_some_iff.1 hg).1,fun j=>by simp [World.frozen?,hg]⟩
end Go.Proofs.YtoaidbhiciaeaaaGreat

end
section
namespace Go.Proofs.YtoaidbhiciaeaaaGreat
open Go.RowKit
theorem date_any (d:Int) (w:World):Calls Tryz.prog 109 #[.int .i64 d] w fun e w'=>e=.returned (.bool (dateB d))∧w=w':=by
 by_cases h:-25567≤d
 ·go_enter Tryz.func109,Tryz.ntmps109
  go_wp2
  go_ret
  exact ⟨retb (by simp [dateB];omega),rfl⟩
 ·go_enter Tryz.func109,Tryz.ntmps109
  go_wp2
  go_ret
  exact ⟨retb (by simp [dateB];omega),rfl⟩
theorem rdate_any (d:Int) (w:World):Calls Tryz.prog 94 #[.int .i64 d] w fun e w'=>e=.returned (.bool (dateB d))∧w=w':=by
 by_cases h:-25567≤d
 ·go_enter Tryz.func94,Tryz.ntmps94
  go_wp2
  go_ret
  exact ⟨retb (by simp [dateB];omega),rfl⟩
 ·go_enter Tryz.func94,Tryz.ntmps94
  go_wp2
  go_ret
  exact ⟨retb (by simp [dateB];omega),rfl⟩
theorem own_keeps {w w':World} {base e size n:Nat} {v:Value} {xs:List Value} (h:w.ownsRow base e size v n xs) (hk:Keeps w w'):w'.ownsRow base e size v n xs:=own_keepsH h hk
end Go.Proofs.YtoaidbhiciaeaaaGreat

end
section
namespace Go.Proofs.YtoaidbhiciaeaaaGreat
open Go.RowKit
theorem wpList_app_raw {P:Program} {w:World} {ops:Array Oper} {rest:List Oper} {o:Oper} {a:Act} {Q:Exit→Act→World→Prop} {t e:TypeId} {z:Value} {size bytes:Nat}
  (E:ElemOf P t e z size bytes) (hgd:o.guard=none) (s x:Operand) (ho:o.op=.call { callee:=.builtin .append,args:=#[s,x],argTypes:=#[t,t] })
  (v:Value) (n:Nat) (xs:List Value) (hs:a.eval s=v) (base:Nat) (hown:w.ownsRow base e size v n xs) (hbase:base≤w.heap.size)
  (news:List Value) (bx c:Nat) (hx:a.eval x=.slice (some ⟨bx,0,none⟩) 1 c) (hbx:bx=w.heap.size) (hl:news.length=size) (h1:∀ u∈news,u.oneCell'=true) (hbytes:(n+1) * bytes≤140737488355328) (h63:n+1≤9223372036854775807)
  (h:∀ v' w',w'.ownsRow base e size v' (n+1) (xs ++ news)→(w.alloc (.cells news.toArray e)).grownBy w' v.ownBlock→(v'.ownBlock=v.ownBlock∨v'.ownBlock=some (w.heap.size+1))→wpList P ops Q rest (a.put o.dst v') w') :
  wpList P ops Q (o :: rest) a (w.alloc (.cells news.toArray e)):=by
 subst hbx
 obtain ⟨i0,hi,hz0,hz1,hz2⟩:=info_parts E.info
 refine wpList_append_own_at _ hgd s x t ho base e i0 z size bytes E.ht hi hz0 hz1 hz2 E.zs E.sz v n xs hs (hown.alloc _) ⟨w.heap.size,0,none⟩ 1 c news hx (by omega) ?_ h1 (by unfold maxLen;omega) hbytes (by simp;omega) ?_
 ·intro j u hj
  rw [Addr.add_lit,Nat.zero_add,cell_of_row (w.alloc (.cells news.toArray e)) w.heap.size j news.toArray e (0,0) (heap_alloc_new w _)]
  simpa using hj
 ·intro v' w' hown' hgrow _ hat
  exact h v' w' hown' hgrow (by simpa using hat)
def OutI (w:World) (xs:List Int) (e:Ending) (w':World):Prop:=∃ v,e=.returned v∧IntL w' v xs∧Keeps w w'
set_option maxRecDepth 100000 in
theorem rclimb_any (l:List Acc) (c0:Int) (ao:Option Addr) (cap b o:Nat) (w:World) (H:Accs w ao l cap b o) (hl:l.length≤1000) :
  Calls Tryz.prog 168 #[.slice ao l.length cap,.int .i64 c0] w (OutI w (climbR l c0)):=by
 have hcap:=Sl.cap H
 have hle:=Sl.le H
 have HH:=Lib.hid H
 clear H
 go_enter Tryz.func168,Tryz.ntmps168
 go_wp2_with fail
 go_loopw [1,5,6] (fun vc vo vi wr=>∃ (k:Nat) (c:Int) (xs:List Int),k≤l.length+1∧xs.length=k∧vi=.int .i64 k∧vc=.int .i64 c∧Hid (climbR l c0=xs ++ pathR l (l.length+1 - k) c)∧Hid (Keeps w wr∧wr.ownsRow w.heap.size 3 1 vo k (xs.map (.int .i64)))) (fun _ _ vi _=>l.length+1 - (intOf vi).toNat)
 case atStart=>exact ⟨0,c0,[],Nat.zero_le _,rfl,rfl,rfl,Lib.hid rfl,Lib.hid ⟨Keeps.refl w,World.ownsRow_nil _ _ _ _⟩⟩
 case round=>
  obtain ⟨k,c,xs,hk,hxs,rfl,rfl,HP,HW⟩:=hrel
  by_cases hlt:k≤l.length
  ·have hlt':(k:Int)≤(l.length:Int):=by omega
   cases hf:findA l c with
   | none=>
    have HE:Hid (climbR l c0=xs):=Lib.hid (by
     rw [HP.out]
     obtain ⟨m,hm⟩:∃ m,l.length+1 - k=m+1:=⟨l.length - k,by omega⟩
     rw [hm];simp only [pathR,hf,List.append_nil])
    go_wp2_with (first | (go_at_call 169;refine (find_none l c ao cap b o _ (HH.out.keeps HW.out.1) hf).mono ?_;rintro e1 w1 ⟨rfl,hk1⟩;have HW1:Hid (Keeps w w1∧w1.ownsRow w.heap.size 3 1 u5 k (xs.map (.int .i64))):=Lib.hid ⟨HW.out.1.trans hk1,own_keeps HW.out.2 hk1⟩;clear hk1))
    go_ret
    rw [HE.out]
    refine ⟨_,rfl,IntL.own (base:=w.heap.size) (e:=3) ?_,HW1.out.1.alloc _⟩
    rw [hxs];exact HW1.out.2.alloc _
   | some a=>
    have HE:Hid (climbR l c0=(xs ++ [c]) ++ pathR l (l.length+1 - (k+1)) a.parent):=Lib.hid (by
     rw [HP.out]
     obtain ⟨m,hm⟩:∃ m,l.length+1 - k=m+1:=⟨l.length - k,by omega⟩
     rw [hm,show l.length+1 - (k+1)=m from by omega];simp only [pathR,hf,List.append_assoc,List.singleton_append])
    go_wp2_with (first | (go_at_call 169;refine (find_some l c a ao cap b o _ (HH.out.keeps HW.out.1) hf).mono ?_;rintro e1 w1 ⟨rfl,hk1⟩;have HW1:Hid (Keeps w w1∧w1.ownsRow w.heap.size 3 1 u5 k (xs.map (.int .i64))):=Lib.hid ⟨HW.out.1.trans hk1,own_keeps HW.out.2 hk1⟩;clear hk1) | (at_builtin;go_loud (refine wpList_app_raw elemInt rfl _ _ rfl _ _ _ rfl w.heap.size (HW1.out.2.alloc _) (by have:=HW1.out.1.size;simp;omega) [.int .i64 c] _ 1 rfl (by simp) rfl (by intro u hu;simp at hu;subst hu;rfl) (by omega) (by omega) ?_;intro v2 w2 hown2 hgrow2 hat2;have d3:=hgrow2.cell (show ((w1.alloc (.cells #[.int .i64 a.code,.int .i64 a.kind,.int .i64 a.basis,.int .i64 a.parent] 68)).alloc (.cells #[.int .i64 c] 3)).cell? ⟨w1.heap.size,3,none⟩=some (.int .i64 a.parent) by go_simp) (fun e=>Nat.lt_irrefl w1.heap.size (HW1.out.2.lt w1.heap.size e.symm).2);have hb2:=World.block_lt_of_cell? _ _ d3;have HX:Hid (Keeps w w2∧w2.ownsRow w.heap.size 3 1 v2 (k+1) ((xs ++ [c]).map (.int .i64))):=Lib.hid ⟨Below.grown ((HW1.out.1.alloc _).alloc _) hgrow2 (by have:=HW1.out.1.size;simp;omega) (fun j hj=>(HW1.out.2.lt j hj).1),by rw [List.map_append];exact hown2⟩;clear hown2 hgrow2 hat2)))
    go_roundw
    case rel=>exact ⟨k+1,a.parent,xs ++ [c],by omega,by simp [hxs],by go_num,rfl,HE,HX⟩
    case measure=>simp [intOf];omega
  ·obtain rfl:k=l.length+1:=by omega
   have hlt':¬ (((l.length+1:Nat):Int)≤(l.length:Int)):=by omega
   have HE:Hid (climbR l c0=xs):=Lib.hid (by
    rw [HP.out,show l.length+1 - (l.length+1)=0 from by omega];simp only [pathR,List.append_nil])
   go_wp2_with fail
   go_ret
   rw [HE.out]
   refine ⟨_,rfl,IntL.own (base:=w.heap.size) (e:=3) ?_,HW.out.1⟩
   rw [hxs];exact HW.out.2
end Go.Proofs.YtoaidbhiciaeaaaGreat

end
section
namespace Go.Proofs.YtoaidbhiciaeaaaGreat
open Go.RowKit
def lenV:Value→Nat
 | .slice _ n _=>n
 | _=>0
theorem lenV_own {w:World} {base e n:Nat} {v:Value} {xs:List Value} (h:w.ownsRow base e 1 v n xs):lenV v=n:=by
 obtain ⟨ao,cap,b,rfl,hs⟩:=Sl.own h
 rfl
theorem seenI_get (l:List Int) (x:Int):(seenI l x).getD (.bool false)=.bool (l.contains x):=by
 unfold seenI
 cases l.contains x <;> rfl
theorem pathP_stop {l:List Acc} {n:Nat} {out:List Int} {c:Int} (hf:findA l c=none):pathP l n out c=out:=by
 cases n with
 | zero=>rfl
 | succ n=>simp only [pathP,hf]
theorem pathP_seen {l:List Acc} {n:Nat} {out:List Int} {c:Int} {a:Acc} (hf:findA l c=some a) (h:out.contains c=true):pathP l n out c=out:=by
 cases n with
 | zero=>rfl
 | succ n=>simp only [pathP,hf,h,if_true]
theorem pathP_next {l:List Acc} {n:Nat} {out:List Int} {c:Int} {a:Acc} (hf:findA l c=some a) (h:out.contains c=false):pathP l (n+1) out c=pathP l n (out ++ [c]) a.parent:=by
 simp only [pathP,hf,h];rfl
def Seen (l:List Acc) (xs:List Int):Prop:=xs.Nodup∧∀ c∈xs,(findA l c).isSome=true
theorem Seen.nil (l:List Acc):Seen l []:=⟨List.nodup_nil,by simp⟩
theorem Seen.le {l:List Acc} {xs:List Int} (h:Seen l xs):xs.length≤l.length:=codes_le h.1 h.2
theorem Seen.snoc {l:List Acc} {xs:List Int} {c:Int} {a:Acc} (h:Seen l xs) (hf:findA l c=some a) (hn:xs.contains c=false):Seen l (xs ++ [c]):=by
 have hn':c∉xs:=by simpa using hn
 refine ⟨?_,fun d hd=>?_⟩
 ·rw [List.nodup_append]
  refine ⟨h.1,by simp,?_⟩
  intro x hx y hy e
  simp only [List.mem_singleton] at hy
  subst hy;exact hn' (e ▸ hx)
 ·rcases List.mem_append.1 hd with hd | hd
  ·exact h.2 d hd
  ·simp only [List.mem_singleton] at hd;subst hd;rw [hf];rfl
theorem pfind_none (l:List Acc) (code:Int) (ao:Option Addr) (cap b o:Nat) (w:World) (H:Accs w ao l cap b o) (hf:findA l code=none) :
  Calls Tryz.prog 103 #[.slice ao l.length cap,.int .i64 code] w fun e w'=>e=.returned (.tuple #[.agg #[.int .i64 0,.int .i64 0,.int .i64 0,.int .i64 0],.bool false])∧Keeps w w':=by
 have:=find_any l code ao cap b o w H;rw [hf] at this;exact this
theorem pfind_some (l:List Acc) (code:Int) (p:Acc) (ao:Option Addr) (cap b o:Nat) (w:World) (H:Accs w ao l cap b o) (hf:findA l code=some p) :
  Calls Tryz.prog 103 #[.slice ao l.length cap,.int .i64 code] w fun e w'=>e=.returned (.tuple #[.agg #[.int .i64 p.code,.int .i64 p.kind,.int .i64 p.basis,.int .i64 p.parent],.bool true])∧Keeps w w':=by
 have:=find_any l code ao cap b o w H;rw [hf] at this;exact this
set_option maxRecDepth 100000 in
theorem climb_any (l:List Acc) (c0:Int) (ao:Option Addr) (cap b o:Nat) (w:World) (H:Accs w ao l cap b o) (hl:l.length≤1000) (h0:I64 c0) (hok:∀ x∈l,I64 x.parent) :
  Calls Tryz.prog 172 #[.slice ao l.length cap,.int .i64 c0] w (OutI w (climbP l c0)):=by
 have hcap:=Sl.cap H
 have hle:=Sl.le H
 have HH:=Lib.hid H
 have hmm:=@run_makeMap Tryz.prog
 have HO:=Lib.hid hok
 clear H hok
 go_enter Tryz.func172,Tryz.ntmps172
 go_wp2_with fail
 go_step3
 go_wp2_with fail
 go_step3
 go_wp2_with fail
 go_loopw [1,5] (fun vc vo wr=>∃ (k:Nat) (c:Int) (xs:List Int),k≤l.length∧xs.length=k∧vc=.int .i64 c∧I64 c∧Hid (lenV vo=k∧Seen l xs∧climbP l c0=pathP l (l.length+1 - k) xs c)∧Hid (Keeps w wr∧VMap intK wr w.heap.size k (seenI xs)∧wr.ownsRow (w.heap.size+1) 3 1 vo k (xs.map (.int .i64)))) (fun _ vo _=>l.length+1 - lenV vo)
 case atStart=>exact ⟨0,c0,[],Nat.zero_le _,rfl,rfl,h0,Lib.hid ⟨rfl,Seen.nil l,rfl⟩,Lib.hid ⟨(Keeps.refl w).alloc _,VMap.made intK w,World.ownsRow_nil _ _ _ _⟩⟩
 case round=>
  obtain ⟨k,c,xs,hk,hxs,rfl,hc64,HP,HW⟩:=hrel
  cases hf:findA l c with
  | none=>
   have HE:Hid (climbP l c0=xs):=Lib.hid (by rw [HP.out.2.2,pathP_stop hf])
   go_wp2_with (first | (go_at_call 103;refine (pfind_none l c ao cap b o _ (HH.out.keeps HW.out.1) hf).mono ?_;rintro e1 w1 ⟨rfl,hk1⟩;have HW1:Hid (Keeps w w1∧w1.ownsRow (w.heap.size+1) 3 1 u5 k (xs.map (.int .i64))):=Lib.hid ⟨HW.out.1.trans hk1,own_keeps HW.out.2.2 hk1⟩;clear hk1))
   rw [Exit.noGoto_ret]
   go_ret
   rw [HE.out]
   refine ⟨_,rfl,IntL.own (base:=w.heap.size+1) (e:=3) ?_,HW1.out.1.alloc _⟩
   rw [hxs];exact HW1.out.2.alloc _
  | some a=>
   cases hin:xs.contains c with
   | true=>
    have HE:Hid (climbP l c0=xs):=Lib.hid (by rw [HP.out.2.2,pathP_seen hf hin])
    go_wp2_with (first | (go_at_call 103;refine (pfind_some l c a ao cap b o _ (HH.out.keeps HW.out.1) hf).mono ?_;rintro e1 w1 ⟨rfl,hk1⟩;have HW1:Hid (Keeps w w1∧w1.ownsRow (w.heap.size+1) 3 1 u5 k (xs.map (.int .i64))):=Lib.hid ⟨HW.out.1.trans hk1,own_keeps HW.out.2.2 hk1⟩;have HM1:Hid (VMap intK w1 w.heap.size k (seenI xs)):=Lib.hid (HW.out.2.1.keeps hk1);have hlk:(Instr.lookup 140 (.map (some w.heap.size)) (.int .i64 c) false).run Tryz.prog (w1.alloc (.cells #[.int .i64 a.code,.int .i64 a.kind,.int .i64 a.basis,.int .i64 a.parent] 68))=.ok (.bool true) (w1.alloc (.cells #[.int .i64 a.code,.int .i64 a.kind,.int .i64 a.basis,.int .i64 a.parent] 68)):=(by have:=(HM1.out.alloc (.cells #[.int .i64 a.code,.int .i64 a.kind,.int .i64 a.basis,.int .i64 a.parent] 68)).look Tryz.underlying140 (fun w=>Tryz.zeroValue4 w) (a:=c) hc64 _ rfl;rw [seenI_get,hin] at this;exact this);clear hk1))
    rw [Exit.noGoto_ret]
    go_ret
    rw [HE.out]
    refine ⟨_,rfl,IntL.own (base:=w.heap.size+1) (e:=3) ?_,HW1.out.1.alloc _⟩
    rw [hxs];exact HW1.out.2.alloc _
   | false=>
    have HS2:Hid (Seen l (xs ++ [c])∧climbP l c0=pathP l (l.length+1 - (k+1)) (xs ++ [c]) a.parent):=Lib.hid ⟨HP.out.2.1.snoc hf hin,by
     rw [HP.out.2.2]
     obtain ⟨m,hm⟩:∃ m,l.length+1 - k=m+1:=⟨l.length - k,by omega⟩
     rw [hm,show l.length+1 - (k+1)=m from by omega,pathP_next hf hin]⟩
    have hk2:k+1≤l.length:=by have:=HS2.out.1.le;simp at this;omega
    have hp64:=HO.out _ (findA_mem hf).1
    have hlv:=HP.out.1
    go_wp2_with (first | (go_at_call 103;refine (pfind_some l c a ao cap b o _ (HH.out.keeps HW.out.1) hf).mono ?_;rintro e1 w1 ⟨rfl,hk1⟩;have HW1:Hid (Keeps w w1∧w1.ownsRow (w.heap.size+1) 3 1 u5 k (xs.map (.int .i64))):=Lib.hid ⟨HW.out.1.trans hk1,own_keeps HW.out.2.2 hk1⟩;have HM1:Hid (VMap intK w1 w.heap.size k (seenI xs)):=Lib.hid (HW.out.2.1.keeps hk1);have hlk:(Instr.lookup 140 (.map (some w.heap.size)) (.int .i64 c) false).run Tryz.prog (w1.alloc (.cells #[.int .i64 a.code,.int .i64 a.kind,.int .i64 a.basis,.int .i64 a.parent] 68))=.ok (.bool false) (w1.alloc (.cells #[.int .i64 a.code,.int .i64 a.kind,.int .i64 a.basis,.int .i64 a.parent] 68)):=(by have:=(HM1.out.alloc (.cells #[.int .i64 a.code,.int .i64 a.kind,.int .i64 a.basis,.int .i64 a.parent] 68)).look Tryz.underlying140 (fun w=>Tryz.zeroValue4 w) (a:=c) hc64 _ rfl;rw [seenI_get,hin] at this;exact this);have hml:=HM1.out.lt;clear hk1) | (refine wpList_vstore (K:=intK) rfl _ _ _ 140 rfl Tryz.underlying140 w.heap.size k rfl (HM1.out.alloc _) (by unfold maxLen;omega) c hc64 rfl (.bool true) rfl (seenI (xs ++ [c])) (seenI_snoc _ _).1 (fun d _ hd=>(seenI_snoc _ _).2 d hd) ?_;intro w3 hm3 hg3;have d3:=hg3.cell (show (w1.alloc (.cells #[.int .i64 a.code,.int .i64 a.kind,.int .i64 a.basis,.int .i64 a.parent] 68)).cell? ⟨w1.heap.size,3,none⟩=some (.int .i64 a.parent) by go_simp) (fun e=>by simp at e;omega);have hb3:=World.block_lt_of_cell? _ _ d3;have HX3:Hid (Keeps w w3∧VMap intK w3 w.heap.size (k+1) (seenI (xs ++ [c]))∧w3.ownsRow (w.heap.size+1) 3 1 u5 k (xs.map (.int .i64))):=Lib.hid ⟨Below.grown (HW1.out.1.alloc _) hg3 (by have:=HW1.out.1.size;simp;omega) (fun j hj=>by cases hj;exact Nat.le_refl _),hm3,(HW1.out.2.alloc _).kept hg3 (Classical.or_iff_not_imp_left.2 fun _ e=>by have:=(HW1.out.2.lt _ e).1;omega)⟩;clear hm3 hg3) | (at_builtin;(refine wpList_app_raw elemInt rfl _ _ rfl _ _ _ rfl (w.heap.size+1) HX3.out.2.2 HX3.out.2.1.lt [.int .i64 c] _ 1 rfl (by simp) rfl (by intro u hu;simp at hu;subst hu;rfl) (by omega) (by omega) ?_;intro v2 w2 hown2 hgrow2 hat2;have d3':=hgrow2.cell (show (w3.alloc (.cells #[.int .i64 c] 3)).cell? ⟨w1.heap.size,3,none⟩=some (.int .i64 a.parent) by go_simp) (fun e=>Nat.lt_irrefl w1.heap.size (HW1.out.2.lt w1.heap.size e.symm).2);have hb2:=World.block_lt_of_cell? _ _ d3';have HX:Hid (lenV v2=k+1∧Keeps w w2∧VMap intK w2 w.heap.size (k+1) (seenI (xs ++ [c]))∧w2.ownsRow (w.heap.size+1) 3 1 v2 (k+1) ((xs ++ [c]).map (.int .i64))):=Lib.hid ⟨lenV_own hown2,Below.grown (HX3.out.1.alloc _) hgrow2 (by have:=HX3.out.1.size;simp;omega) (fun j hj=>by have:=(HX3.out.2.2.lt j hj).1;omega),(HX3.out.2.1.alloc _).kept hgrow2 (fun e=>by have:=(HX3.out.2.2.lt _ e.symm).1;omega),by rw [List.map_append];exact hown2⟩;clear hown2 hgrow2 hat2)))
    go_roundw
    case rel=>exact ⟨k+1,a.parent,xs ++ [c],hk2,by simp [hxs],rfl,hp64,Lib.hid ⟨HX.out.1,HS2.out⟩,Lib.hid HX.out.2⟩
    case measure=>simp [HX.out.1,hlv];omega
end Go.Proofs.YtoaidbhiciaeaaaGreat

end
