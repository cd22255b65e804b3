/- Walks and plain facts that the claim rests on (ValidPW, LinkW, KeyL, MValidP). No condition. -/
import Derived.Test.YtoaidbhiciaeaaaGreatPo11
import Derived.Test.YtoaidbhiciaeaaaGreatPo12
import Derived.Test.YtoaidbhiciaeaaaGreatPo10
import Derived.Test.YtoaidbhiciaeaaaGreatPo02
import Derived.Test.YtoaidbhiciaeaaaGreatPo07
set_option linter.unusedSimpArgs false
set_option linter.unusedVariables false
set_option maxHeartbeats 16000000
section
namespace Go.Proofs.YtoaidbhiciaeaaaGreat
open Go.RowKit
theorem validPB_bad {l:List Acc} {group:Bool} {k:Nat} (hk:k < l.length) (h:okP l group k=false):validPB l group=false:=by
 unfold validPB;rw [all_range_false hk h,Bool.false_and]
theorem validPB_good {l:List Acc} {group:Bool} (h:∀ k < l.length,okP l group k=true):validPB l group=decide (l.length≤200):=by
 unfold validPB
 rw [List.all_eq_true.2 (fun k hk=>h k (List.mem_range.1 hk)),Bool.true_and]
theorem findA_own {l:List Acc} {k:Nat} (hk:k < l.length):(findA l l[k].code).isSome=true:=by
 unfold findA
 rw [List.find?_isSome]
 exact ⟨l[k],List.getElem_mem hk,by simp⟩
set_option maxRecDepth 100000 in
theorem valid_any (l:List Acc) (group:Bool) (ao:Option Addr) (cap b o:Nat) (w:World) (H:Accs w ao l cap b o) (hl:l.length≤200) (hok:∀ x∈l,I64 x.code∧I64 x.parent) :
  Calls Tryz.prog 98 #[.slice ao l.length cap,.bool group] w fun e w'=>e=.returned (.bool (validPB l group))∧Keeps w w':=by
 have hcap:=Sl.cap H
 have hle:=Sl.le H
 have HH:=Lib.hid H
 have HO:=Lib.hid hok
 clear H hok
 go_enter Tryz.func98,Tryz.ntmps98
 go_wp2_with fail
 go_loopw [9] (fun vi wr=>∃ k:Nat,k≤l.length∧vi=.int .i64 k∧Hid (∀ j < k,okP l group j=true)∧Hid (Keeps w wr)) (fun vi _=>l.length - (intOf vi).toNat)
 case atStart=>exact ⟨0,Nat.zero_le _,rfl,Lib.hid (fun j hj=>absurd hj (Nat.not_lt_zero _)),Lib.hid (Keeps.refl w)⟩
 case round=>
  obtain ⟨k,hk,rfl,HN,HW⟩:=hrel
  by_cases hlt:k < l.length
  ·have HL:=HH.out.keeps HW.out
   have hix:=Sl.at HL Tryz.underlying24 Tryz.sizeOf68 k hlt
   have c0:=HL.cell Acc.len k hlt 0 _ rfl
   have c1:=HL.cell Acc.len k hlt 1 _ rfl
   have c2:=HL.cell Acc.len k hlt 2 _ rfl
   have c3:=HL.cell Acc.len k hlt 3 _ rfl
   simp only [Nat.add_zero] at c0
   obtain ⟨pr,hpr⟩:∃ pr,properPB l l[k] group=pr:=⟨_,rfl⟩
   have hok:=okP_proper (group:=group) hlt
   rw [hpr] at hok
   have HP:Hid (∀ W,Accs W ao l cap b o→Calls Tryz.prog 144 #[.slice ao l.length cap,.agg #[.int .i64 l[k].code,.int .i64 l[k].kind,.int .i64 l[k].basis,.int .i64 l[k].parent],.bool group] W fun e w'=>e=.returned (.bool pr)∧Keeps W w'):=Lib.hid (fun W h=>by have:=proper_any l l[k] group ao cap b o W h (by omega) (HO.out _ (List.getElem_mem _)).1 (fun x hx=>(HO.out x hx).2) (findA_own hlt);rw [hpr] at this;exact this)
   clear hpr
   cases k with
   | zero=>
    rw [riseB_zero,Bool.true_and] at hok
    have HOK:=Lib.hid hok
    simp only [Nat.zero_mul,Nat.add_zero,Int.natCast_zero] at hix c0 c1 c2 c3
    have HS:Hid (∀ w',Keeps (wr.alloc (.cells #[.int .i64 l[0].code,.int .i64 l[0].kind,.int .i64 l[0].basis,.int .i64 l[0].parent] 68)).drew w'→w'.cell? ⟨wr.heap.size,0,none⟩=some (.int .i64 l[0].code)∧w'.cell? ⟨wr.heap.size,1,none⟩=some (.int .i64 l[0].kind)∧w'.cell? ⟨wr.heap.size,2,none⟩=some (.int .i64 l[0].basis)∧w'.cell? ⟨wr.heap.size,3,none⟩=some (.int .i64 l[0].parent)∧True):=Lib.hid (fun w' h=>⟨h.cell (p:=⟨wr.heap.size,0,none⟩) (by go_simp),h.cell (p:=⟨wr.heap.size,1,none⟩) (by go_simp),h.cell (p:=⟨wr.heap.size,2,none⟩) (by go_simp),h.cell (p:=⟨wr.heap.size,3,none⟩) (by go_simp),trivial⟩)
    clear HL hok
    go_wp2_with fail
    clear c0 c1 c2 c3
    refine wp_region_steps (A:=?_) Keeps [some 14,some 15,some 16,some 17,some 18,some 19,some 20,some 21,some 22,some 23,some 24,some 25,some 26,some 27,some 28,some 29,some 30,some 31,some 32,some 33] [[],[0],[1],[2],[2],[2,4],[2,3,5],[2,6],[2,7],[2],[2,9],[2,8,10],[2,11],[12],[13],[13],[13],[13,14,15,16],[13,17],[13,18]] 20 (by kernel_rfl) (by kernel_rfl) (by kernel_rfl) (by kernel_rfl) (by kernel_rfl) (by kernel_rfl) Keeps.refl (fun _ _ _=>Keeps.trans) ?_ ?_
    rotate_left
    ·intro f;simp only [putL,Act.put,List.setIfInBounds_toArray,List.set_cons_zero,List.set_cons_succ,Nat.zero_add,Nat.reduceAdd];exact rfl
    iterate 17 (all_goals first
     | (refine Steps.pure (v:=?_) Keeps.refl rfl (fun f w' hR hV=>⟨?_,?_⟩) ?_;rotate_left;(focus ((repeat (obtain ⟨hq,hV⟩:=hV;(try replace hq:_=_:=hq)));first | exact want_yes rfl rfl rfl (by assumption) | rfl));(focus ((repeat (obtain ⟨hq,hV⟩:=hV;(try replace hq:_=_:=hq)));obtain ⟨c0,c1,c2,c3,d0⟩:=HS.out _ hR;go_simp;all_goals (try with_reducible rfl))))
     | (refine Steps.skip rfl (fun f w' hR hV=>?_) ?_;(focus ((repeat (obtain ⟨hq,hV⟩:=hV;(try replace hq:_=_:=hq)));first | exact want_no rfl rfl rfl (by assumption) rfl | exact want_undef rfl rfl rfl (by assumption)))))
    all_goals first
     | (refine Steps.call (fun _ v=>v=.bool pr) rfl (fun _ _ _ _ h=>h) (fun f w' hR hV=>⟨?_,?_⟩) ?_;(focus (obtain ⟨h13,_,_,_,_⟩:=hV;replace h13:f 13=_:=h13;exact want_yes (t:=27) rfl (by kernel_rfl) rfl h13));(focus (obtain ⟨h13,h14,h15,h16,_⟩:=hV;replace h13:f 13=_:=h13;replace h14:f 14=_:=h14;replace h15:f 15=_:=h15;replace h16:f 16=_:=h16;obtain ⟨c0,c1,c2,c3,d0⟩:=HS.out _ hR;go_simp;go_at_call 144;refine (HP.out _ (HH.out.keeps ((HW.out.alloc _).drew.trans hR))).mono ?_;rintro e w2 ⟨rfl,hk2⟩;exact StepPost.of _ rfl rfl hk2)))
     | (refine Steps.skip rfl (fun f w' hR hV=>?_) ?_;(focus (obtain ⟨h13,_,_,_,_⟩:=hV;replace h13:f 13=_:=h13;first | exact want_no (t:=27) rfl (by kernel_rfl) rfl h13 rfl | exact want_undef (t:=27) rfl (by kernel_rfl) rfl h13)))
    cases pr
    all_goals first
     | (refine Steps.pure (v:=?_) Keeps.refl rfl (fun f w' hR hV=>⟨?_,?_⟩) ?_;rotate_left;(focus (obtain ⟨h13,_,_⟩:=hV;replace h13:f 13=_:=h13;exact want_yes (t:=27) rfl (by kernel_rfl) rfl h13));(focus (obtain ⟨h13,h17,_⟩:=hV;replace h13:f 13=_:=h13;replace h17:f 17=_:=h17;obtain ⟨c0,c1,c2,c3,d0⟩:=HS.out _ hR;go_simp;all_goals (try with_reducible rfl))))
     | (refine Steps.skip rfl (fun f w' hR hV=>?_) ?_;(focus (obtain ⟨h13,_,_⟩:=hV;replace h13:f 13=_:=h13;first | exact want_no (t:=27) rfl (by kernel_rfl) rfl h13 rfl | exact want_undef (t:=27) rfl (by kernel_rfl) rfl h13)))
    (all_goals (refine Steps.pure (v:=?_) Keeps.refl rfl (fun f w' hR hV=>⟨?_,?_⟩) ?_;rotate_left;(focus rfl);(focus ((repeat (obtain ⟨hq,hV⟩:=hV;(try replace hq:_=_:=hq)));obtain ⟨c0,c1,c2,c3,d0⟩:=HS.out _ hR;go_simp;all_goals (try with_reducible rfl)))))
    all_goals (refine Steps.done [19] (by kernel_rfl) rfl (fun f wq hR hV=>?_);obtain ⟨h19,_⟩:=hV;replace h19:f 19=_:=h19;simp only [h19])
    all_goals (have HR:=Lib.hid ((HW.out.alloc (.cells #[.int .i64 l[0].code,.int .i64 l[0].kind,.int .i64 l[0].basis,.int .i64 l[0].parent] 68)).drew.trans hR);clear hR)
    ·have HB:=Lib.hid (validPB_bad hlt (HOK.out.trans (by rfl)))
     go_wp2
     go_ret
     rw [HB.out]
     exact ⟨rfl,HR.out⟩
    ·go_wp2
     go_roundw
     case rel=>exact ⟨0+1,by omega,by go_num,Lib.hid (fun j hj=>by
      rcases Nat.lt_succ_iff_lt_or_eq.1 hj with h | rfl
      ·exact HN.out j h
      ·exact HOK.out.trans (by rfl)),HR⟩
     case measure=>simp [intOf];omega
   | succ m=>
    rw [riseB_succ hlt] at hok
    have hm2:m < l.length:=by omega
    have hix2:=Sl.at HL Tryz.underlying24 Tryz.sizeOf68 m hm2
    have d0:=HL.cell Acc.len m hm2 0 _ rfl
    simp only [Nat.add_zero] at d0
    have hbd:=World.block_lt_of_cell? _ _ d0
    rw [show (((m+1:Nat)):Int)=(m:Int)+1 from by omega] at hix
    have e2:decide ((0:Int) < (m:Int)+1)=true:=decide_eq_true (by omega)
    have hw1:IntKind.i64.wrap (m:Int)=(m:Int):=IntWalk.i64_in _ (by omega)
    have HS:Hid (∀ w',Keeps (wr.alloc (.cells #[.int .i64 l[m+1].code,.int .i64 l[m+1].kind,.int .i64 l[m+1].basis,.int .i64 l[m+1].parent] 68)).drew w'→w'.cell? ⟨wr.heap.size,0,none⟩=some (.int .i64 l[m+1].code)∧w'.cell? ⟨wr.heap.size,1,none⟩=some (.int .i64 l[m+1].kind)∧w'.cell? ⟨wr.heap.size,2,none⟩=some (.int .i64 l[m+1].basis)∧w'.cell? ⟨wr.heap.size,3,none⟩=some (.int .i64 l[m+1].parent)∧w'.cell? ⟨b,o+m * 4,none⟩=some (.int .i64 l[m].code)):=Lib.hid (fun w' h=>⟨h.cell (p:=⟨wr.heap.size,0,none⟩) (by go_simp),h.cell (p:=⟨wr.heap.size,1,none⟩) (by go_simp),h.cell (p:=⟨wr.heap.size,2,none⟩) (by go_simp),h.cell (p:=⟨wr.heap.size,3,none⟩) (by go_simp),((((Keeps.refl wr).alloc _).drew).trans h).cell d0⟩)
    clear HL
    by_cases hr:l[m].code < l[m+1].code
    ·have e1:decide (l[m+1].code≤l[m].code)=false:=decide_eq_false (by omega)
     rw [decide_eq_true hr,Bool.true_and] at hok
     have HOK:=Lib.hid hok
     clear hok hr
     go_wp2_with fail
     clear c0 c1 c2 c3 d0
     refine wp_region_steps (A:=?_) Keeps [some 14,some 15,some 16,some 17,some 18,some 19,some 20,some 21,some 22,some 23,some 24,some 25,some 26,some 27,some 28,some 29,some 30,some 31,some 32,some 33] [[],[0],[1],[2],[2],[2,4],[2,3,5],[2,6],[2,7],[2],[2,9],[2,8,10],[2,11],[12],[13],[13],[13],[13,14,15,16],[13,17],[13,18]] 20 (by kernel_rfl) (by kernel_rfl) (by kernel_rfl) (by kernel_rfl) (by kernel_rfl) (by kernel_rfl) Keeps.refl (fun _ _ _=>Keeps.trans) ?_ ?_
     rotate_left
     ·intro f;simp only [putL,Act.put,List.setIfInBounds_toArray,List.set_cons_zero,List.set_cons_succ,Nat.zero_add,Nat.reduceAdd];exact rfl
     iterate 17 (all_goals first
      | (refine Steps.pure (v:=?_) Keeps.refl rfl (fun f w' hR hV=>⟨?_,?_⟩) ?_;rotate_left;(focus ((repeat (obtain ⟨hq,hV⟩:=hV;(try replace hq:_=_:=hq)));first | exact want_yes rfl rfl rfl (by assumption) | rfl));(focus ((repeat (obtain ⟨hq,hV⟩:=hV;(try replace hq:_=_:=hq)));obtain ⟨c0,c1,c2,c3,d0⟩:=HS.out _ hR;go_simp;all_goals (try with_reducible rfl))))
      | (refine Steps.skip rfl (fun f w' hR hV=>?_) ?_;(focus ((repeat (obtain ⟨hq,hV⟩:=hV;(try replace hq:_=_:=hq)));first | exact want_no rfl rfl rfl (by assumption) rfl | exact want_undef rfl rfl rfl (by assumption)))))
     all_goals first
      | (refine Steps.call (fun _ v=>v=.bool pr) rfl (fun _ _ _ _ h=>h) (fun f w' hR hV=>⟨?_,?_⟩) ?_;(focus (obtain ⟨h13,_,_,_,_⟩:=hV;replace h13:f 13=_:=h13;exact want_yes (t:=27) rfl (by kernel_rfl) rfl h13));(focus (obtain ⟨h13,h14,h15,h16,_⟩:=hV;replace h13:f 13=_:=h13;replace h14:f 14=_:=h14;replace h15:f 15=_:=h15;replace h16:f 16=_:=h16;obtain ⟨c0,c1,c2,c3,d0⟩:=HS.out _ hR;go_simp;go_at_call 144;refine (HP.out _ (HH.out.keeps ((HW.out.alloc _).drew.trans hR))).mono ?_;rintro e w2 ⟨rfl,hk2⟩;exact StepPost.of _ rfl rfl hk2)))
      | (refine Steps.skip rfl (fun f w' hR hV=>?_) ?_;(focus (obtain ⟨h13,_,_,_,_⟩:=hV;replace h13:f 13=_:=h13;first | exact want_no (t:=27) rfl (by kernel_rfl) rfl h13 rfl | exact want_undef (t:=27) rfl (by kernel_rfl) rfl h13)))
     cases pr
     all_goals first
      | (refine Steps.pure (v:=?_) Keeps.refl rfl (fun f w' hR hV=>⟨?_,?_⟩) ?_;rotate_left;(focus (obtain ⟨h13,_,_⟩:=hV;replace h13:f 13=_:=h13;exact want_yes (t:=27) rfl (by kernel_rfl) rfl h13));(focus (obtain ⟨h13,h17,_⟩:=hV;replace h13:f 13=_:=h13;replace h17:f 17=_:=h17;obtain ⟨c0,c1,c2,c3,d0⟩:=HS.out _ hR;go_simp;all_goals (try with_reducible rfl))))
      | (refine Steps.skip rfl (fun f w' hR hV=>?_) ?_;(focus (obtain ⟨h13,_,_⟩:=hV;replace h13:f 13=_:=h13;first | exact want_no (t:=27) rfl (by kernel_rfl) rfl h13 rfl | exact want_undef (t:=27) rfl (by kernel_rfl) rfl h13)))
     (all_goals (refine Steps.pure (v:=?_) Keeps.refl rfl (fun f w' hR hV=>⟨?_,?_⟩) ?_;rotate_left;(focus rfl);(focus ((repeat (obtain ⟨hq,hV⟩:=hV;(try replace hq:_=_:=hq)));obtain ⟨c0,c1,c2,c3,d0⟩:=HS.out _ hR;go_simp;all_goals (try with_reducible rfl)))))
     all_goals (refine Steps.done [19] (by kernel_rfl) rfl (fun f wq hR hV=>?_);obtain ⟨h19,_⟩:=hV;replace h19:f 19=_:=h19;simp only [h19])
     all_goals (have HR:=Lib.hid ((HW.out.alloc (.cells #[.int .i64 l[(m+1)].code,.int .i64 l[(m+1)].kind,.int .i64 l[(m+1)].basis,.int .i64 l[(m+1)].parent] 68)).drew.trans hR);clear hR)
     ·have HB:=Lib.hid (validPB_bad hlt (HOK.out.trans (by rfl)))
      go_wp2
      go_ret
      rw [HB.out]
      exact ⟨rfl,HR.out⟩
     ·go_wp2
      go_roundw
      case rel=>exact ⟨(m+1)+1,by omega,by go_num,Lib.hid (fun j hj=>by
       rcases Nat.lt_succ_iff_lt_or_eq.1 hj with h | rfl
       ·exact HN.out j h
       ·exact HOK.out.trans (by rfl)),HR⟩
      case measure=>simp [intOf];omega
    ·have e1:decide (l[m+1].code≤l[m].code)=true:=decide_eq_true (by omega)
     rw [decide_eq_false hr,Bool.false_and] at hok
     have HB:=Lib.hid (validPB_bad hlt hok)
     clear hok hr
     go_wp2_with fail
     clear c0 c1 c2 c3 d0
     refine wp_region_steps (A:=?_) Keeps [some 14,some 15,some 16,some 17,some 18,some 19,some 20,some 21,some 22,some 23,some 24,some 25,some 26,some 27,some 28,some 29,some 30,some 31,some 32,some 33] [[],[0],[1],[2],[2],[2,4],[2,3,5],[2,6],[2,7],[2],[2,9],[2,8,10],[2,11],[12],[13],[13],[13],[13,14,15,16],[13,17],[13,18]] 20 (by kernel_rfl) (by kernel_rfl) (by kernel_rfl) (by kernel_rfl) (by kernel_rfl) (by kernel_rfl) Keeps.refl (fun _ _ _=>Keeps.trans) ?_ ?_
     rotate_left
     ·intro f;simp only [putL,Act.put,List.setIfInBounds_toArray,List.set_cons_zero,List.set_cons_succ,Nat.zero_add,Nat.reduceAdd];exact rfl
     iterate 17 (all_goals first
      | (refine Steps.pure (v:=?_) Keeps.refl rfl (fun f w' hR hV=>⟨?_,?_⟩) ?_;rotate_left;(focus ((repeat (obtain ⟨hq,hV⟩:=hV;(try replace hq:_=_:=hq)));first | exact want_yes rfl rfl rfl (by assumption) | rfl));(focus ((repeat (obtain ⟨hq,hV⟩:=hV;(try replace hq:_=_:=hq)));obtain ⟨c0,c1,c2,c3,d0⟩:=HS.out _ hR;go_simp;all_goals (try with_reducible rfl))))
      | (refine Steps.skip rfl (fun f w' hR hV=>?_) ?_;(focus ((repeat (obtain ⟨hq,hV⟩:=hV;(try replace hq:_=_:=hq)));first | exact want_no rfl rfl rfl (by assumption) rfl | exact want_undef rfl rfl rfl (by assumption)))))
     all_goals first
      | (refine Steps.call (fun _ v=>v=.bool pr) rfl (fun _ _ _ _ h=>h) (fun f w' hR hV=>⟨?_,?_⟩) ?_;(focus (obtain ⟨h13,_,_,_,_⟩:=hV;replace h13:f 13=_:=h13;exact want_yes (t:=27) rfl (by kernel_rfl) rfl h13));(focus (obtain ⟨h13,h14,h15,h16,_⟩:=hV;replace h13:f 13=_:=h13;replace h14:f 14=_:=h14;replace h15:f 15=_:=h15;replace h16:f 16=_:=h16;obtain ⟨c0,c1,c2,c3,d0⟩:=HS.out _ hR;go_simp;go_at_call 144;refine (HP.out _ (HH.out.keeps ((HW.out.alloc _).drew.trans hR))).mono ?_;rintro e w2 ⟨rfl,hk2⟩;exact StepPost.of _ rfl rfl hk2)))
      | (refine Steps.skip rfl (fun f w' hR hV=>?_) ?_;(focus (obtain ⟨h13,_,_,_,_⟩:=hV;replace h13:f 13=_:=h13;first | exact want_no (t:=27) rfl (by kernel_rfl) rfl h13 rfl | exact want_undef (t:=27) rfl (by kernel_rfl) rfl h13)))
     iterate 2 (all_goals first
      | (refine Steps.pure (v:=?_) Keeps.refl rfl (fun f w' hR hV=>⟨?_,?_⟩) ?_;rotate_left;(focus ((repeat (obtain ⟨hq,hV⟩:=hV;(try replace hq:_=_:=hq)));first | exact want_yes rfl rfl rfl (by assumption) | rfl));(focus ((repeat (obtain ⟨hq,hV⟩:=hV;(try replace hq:_=_:=hq)));obtain ⟨c0,c1,c2,c3,d0⟩:=HS.out _ hR;go_simp;all_goals (try with_reducible rfl))))
      | (refine Steps.skip rfl (fun f w' hR hV=>?_) ?_;(focus ((repeat (obtain ⟨hq,hV⟩:=hV;(try replace hq:_=_:=hq)));first | exact want_no rfl rfl rfl (by assumption) rfl | exact want_undef rfl rfl rfl (by assumption)))))
     all_goals (refine Steps.done [19] (by kernel_rfl) rfl (fun f wq hR hV=>?_);obtain ⟨h19,_⟩:=hV;replace h19:f 19=_:=h19;simp only [h19])
     all_goals (have HR:=Lib.hid ((HW.out.alloc (.cells #[.int .i64 l[m+1].code,.int .i64 l[m+1].kind,.int .i64 l[m+1].basis,.int .i64 l[m+1].parent] 68)).drew.trans hR);clear hR)
     all_goals (go_wp2;go_ret;rw [HB.out];exact ⟨rfl,HR.out⟩)
  ·obtain rfl:k=l.length:=by omega
   have HB:=Lib.hid ((validPB_good (fun j hj=>HN.out j hj)).trans (decide_eq_true hl))
   have hlz:decide ((l.length:Int)≤200)=true:=decide_eq_true (by omega)
   go_wp2_with fail
   go_ret
   rw [HB.out]
   exact ⟨rfl,HW.out⟩
end Go.Proofs.YtoaidbhiciaeaaaGreat

end
section
namespace Go.Proofs.YtoaidbhiciaeaaaGreat
open Go.RowKit
def linkB (x c:List Acc) (l:Lnk):Bool:=match findA x l.frm,findA c l.to with
 | some a,some b=>a.kind == b.kind && dateB l.since
 | _,_=>false
set_option maxRecDepth 100000 in
theorem link_any (nm cur:ByteArray) (jt:Bool) (x c:List Acc) (l:Lnk) (lv:Value) (ao:Option Addr) (cap b o:Nat) (ao2:Option Addr) (cap2 b2 o2:Nat) (w:World) (H:Accs w ao x cap b o) (H2:Accs w ao2 c cap2 b2 o2) :
  Calls Tryz.prog 147 #[.agg #[.string nm,.string cur,.slice ao x.length cap,lv,.bool jt],.slice ao2 c.length cap2,.agg #[.int .i64 l.frm,.int .i64 l.to,.int .i64 l.since]] w fun e w'=>e=.returned (.bool (linkB x c l))∧Keeps w w':=by
 have HC:=Lib.hid H
 have HD:=Lib.hid H2
 have K0:Hid (Keeps w ((w.alloc (.cells #[.string nm,.string cur,.slice ao x.length cap,lv,.bool jt] 106)).alloc (.cells #[.int .i64 l.frm,.int .i64 l.to,.int .i64 l.since] 162))):=Lib.hid (((Keeps.refl w).alloc _).alloc _)
 obtain ⟨a,ha⟩:∃ a,(findA x l.frm).getD Acc.zero=a:=⟨_,rfl⟩
 obtain ⟨p,hp⟩:∃ p,(findA x l.frm).isSome=p:=⟨_,rfl⟩
 obtain ⟨d,hd⟩:∃ d,(findA c l.to).getD Acc.zero=d:=⟨_,rfl⟩
 obtain ⟨q,hq⟩:∃ q,(findA c l.to).isSome=q:=⟨_,rfl⟩
 have HB:Hid (∀ W,Accs W ao2 c cap2 b2 o2→Calls Tryz.prog 103 #[.slice ao2 c.length cap2,.int .i64 l.to] W fun e w'=>e=.returned (.tuple #[.agg #[.int .i64 d.code,.int .i64 d.kind,.int .i64 d.basis,.int .i64 d.parent],.bool q])∧Keeps W w'):=Lib.hid (fun W h=>by
  have:=find_any c l.to ao2 cap2 b2 o2 W h
  unfold AccO at this
  rw [hd,hq] at this
  exact this)
 have HA:Hid (∀ W,Accs W ao x cap b o→Calls Tryz.prog 103 #[.slice ao x.length cap,.int .i64 l.frm] W fun e w'=>e=.returned (.tuple #[.agg #[.int .i64 a.code,.int .i64 a.kind,.int .i64 a.basis,.int .i64 a.parent],.bool p])∧Keeps W w'):=Lib.hid (fun W h=>by
  have:=find_any x l.frm ao cap b o W h
  unfold AccO at this
  rw [ha,hp] at this
  exact this)
 have hfin:linkB x c l=(p && q && (a.kind == d.kind) && dateB l.since):=by
  unfold linkB
  subst ha hp hd hq
  cases findA x l.frm <;> cases findA c l.to <;> simp
 have HF:=Lib.hid hfin
 clear hfin ha hd hp hq H H2
 cases p with
 | false=>
  go_enter Tryz.func147,Tryz.ntmps147
  go_wp2_with (first | (go_at_call 109;refine (date_any _ _).mono ?_;rintro e3 w3 ⟨rfl,rfl⟩) | (go_at_call 103;(with_reducible refine (HB.out _ (HD.out.keeps K1.out)).mono ?_);rintro e2 w2 ⟨rfl,hk2⟩;have f2:=hk2.cell p2;have hz3:=World.block_lt_of_cell? _ _ f2;have q1:=hk2.cell p1;have hz2:=World.block_lt_of_cell? _ _ q1;have K2:=Lib.hid (K1.out.trans hk2);clear hk2 p1 p2 g1 g2) | (go_at_call 103;(with_reducible refine (HA.out _ (HC.out.keeps K0.out)).mono ?_);rintro e1 w1 ⟨rfl,hk1⟩;have g1:=hk1.cell (p:=⟨w.heap.size+1,1,none⟩) (v:=.int .i64 l.to) (by go_simp);have g2:=hk1.cell (p:=⟨w.heap.size+1,2,none⟩) (v:=.int .i64 l.since) (by go_simp);have hz1:=World.block_lt_of_cell? _ _ g1;have p2:(w1.alloc (.cells #[.int .i64 a.code,.int .i64 a.kind,.int .i64 a.basis,.int .i64 a.parent] 68)).cell? ⟨w.heap.size+1,2,none⟩=some (.int .i64 l.since):=(by go_simp);have p1:(w1.alloc (.cells #[.int .i64 a.code,.int .i64 a.kind,.int .i64 a.basis,.int .i64 a.parent] 68)).cell? ⟨w1.heap.size,1,none⟩=some (.int .i64 a.kind):=(by go_simp);have K1:=Lib.hid ((K0.out.trans hk1).alloc (.cells #[.int .i64 a.code,.int .i64 a.kind,.int .i64 a.basis,.int .i64 a.parent] 68));clear hk1))
  go_ret
  rw [HF.out]
  exact ⟨rfl,K2.out.alloc _⟩
 | true=>
  cases q with
  | false=>
   go_enter Tryz.func147,Tryz.ntmps147
   go_wp2_with (first | (go_at_call 109;refine (date_any _ _).mono ?_;rintro e3 w3 ⟨rfl,rfl⟩) | (go_at_call 103;(with_reducible refine (HB.out _ (HD.out.keeps K1.out)).mono ?_);rintro e2 w2 ⟨rfl,hk2⟩;have f2:=hk2.cell p2;have hz3:=World.block_lt_of_cell? _ _ f2;have q1:=hk2.cell p1;have hz2:=World.block_lt_of_cell? _ _ q1;have K2:=Lib.hid (K1.out.trans hk2);clear hk2 p1 p2 g1 g2) | (go_at_call 103;(with_reducible refine (HA.out _ (HC.out.keeps K0.out)).mono ?_);rintro e1 w1 ⟨rfl,hk1⟩;have g1:=hk1.cell (p:=⟨w.heap.size+1,1,none⟩) (v:=.int .i64 l.to) (by go_simp);have g2:=hk1.cell (p:=⟨w.heap.size+1,2,none⟩) (v:=.int .i64 l.since) (by go_simp);have hz1:=World.block_lt_of_cell? _ _ g1;have p2:(w1.alloc (.cells #[.int .i64 a.code,.int .i64 a.kind,.int .i64 a.basis,.int .i64 a.parent] 68)).cell? ⟨w.heap.size+1,2,none⟩=some (.int .i64 l.since):=(by go_simp);have p1:(w1.alloc (.cells #[.int .i64 a.code,.int .i64 a.kind,.int .i64 a.basis,.int .i64 a.parent] 68)).cell? ⟨w1.heap.size,1,none⟩=some (.int .i64 a.kind):=(by go_simp);have K1:=Lib.hid ((K0.out.trans hk1).alloc (.cells #[.int .i64 a.code,.int .i64 a.kind,.int .i64 a.basis,.int .i64 a.parent] 68));clear hk1))
   go_ret
   rw [HF.out]
   exact ⟨rfl,K2.out.alloc _⟩
  | true=>
   cases hk:(a.kind == d.kind) with
   | false=>
    rw [hk] at HF
    go_enter Tryz.func147,Tryz.ntmps147
    go_wp2_with (first | (go_at_call 109;refine (date_any _ _).mono ?_;rintro e3 w3 ⟨rfl,rfl⟩) | (go_at_call 103;(with_reducible refine (HB.out _ (HD.out.keeps K1.out)).mono ?_);rintro e2 w2 ⟨rfl,hk2⟩;have f2:=hk2.cell p2;have hz3:=World.block_lt_of_cell? _ _ f2;have q1:=hk2.cell p1;have hz2:=World.block_lt_of_cell? _ _ q1;have K2:=Lib.hid (K1.out.trans hk2);clear hk2 p1 p2 g1 g2) | (go_at_call 103;(with_reducible refine (HA.out _ (HC.out.keeps K0.out)).mono ?_);rintro e1 w1 ⟨rfl,hk1⟩;have g1:=hk1.cell (p:=⟨w.heap.size+1,1,none⟩) (v:=.int .i64 l.to) (by go_simp);have g2:=hk1.cell (p:=⟨w.heap.size+1,2,none⟩) (v:=.int .i64 l.since) (by go_simp);have hz1:=World.block_lt_of_cell? _ _ g1;have p2:(w1.alloc (.cells #[.int .i64 a.code,.int .i64 a.kind,.int .i64 a.basis,.int .i64 a.parent] 68)).cell? ⟨w.heap.size+1,2,none⟩=some (.int .i64 l.since):=(by go_simp);have p1:(w1.alloc (.cells #[.int .i64 a.code,.int .i64 a.kind,.int .i64 a.basis,.int .i64 a.parent] 68)).cell? ⟨w1.heap.size,1,none⟩=some (.int .i64 a.kind):=(by go_simp);have K1:=Lib.hid ((K0.out.trans hk1).alloc (.cells #[.int .i64 a.code,.int .i64 a.kind,.int .i64 a.basis,.int .i64 a.parent] 68));clear hk1))
    go_ret
    rw [HF.out]
    exact ⟨rfl,K2.out.alloc _⟩
   | true=>
    rw [hk] at HF
    go_enter Tryz.func147,Tryz.ntmps147
    go_wp2_with (first | (go_at_call 109;refine (date_any _ _).mono ?_;rintro e3 w3 ⟨rfl,rfl⟩) | (go_at_call 103;(with_reducible refine (HB.out _ (HD.out.keeps K1.out)).mono ?_);rintro e2 w2 ⟨rfl,hk2⟩;have f2:=hk2.cell p2;have hz3:=World.block_lt_of_cell? _ _ f2;have q1:=hk2.cell p1;have hz2:=World.block_lt_of_cell? _ _ q1;have K2:=Lib.hid (K1.out.trans hk2);clear hk2 p1 p2 g1 g2) | (go_at_call 103;(with_reducible refine (HA.out _ (HC.out.keeps K0.out)).mono ?_);rintro e1 w1 ⟨rfl,hk1⟩;have g1:=hk1.cell (p:=⟨w.heap.size+1,1,none⟩) (v:=.int .i64 l.to) (by go_simp);have g2:=hk1.cell (p:=⟨w.heap.size+1,2,none⟩) (v:=.int .i64 l.since) (by go_simp);have hz1:=World.block_lt_of_cell? _ _ g1;have p2:(w1.alloc (.cells #[.int .i64 a.code,.int .i64 a.kind,.int .i64 a.basis,.int .i64 a.parent] 68)).cell? ⟨w.heap.size+1,2,none⟩=some (.int .i64 l.since):=(by go_simp);have p1:(w1.alloc (.cells #[.int .i64 a.code,.int .i64 a.kind,.int .i64 a.basis,.int .i64 a.parent] 68)).cell? ⟨w1.heap.size,1,none⟩=some (.int .i64 a.kind):=(by go_simp);have K1:=Lib.hid ((K0.out.trans hk1).alloc (.cells #[.int .i64 a.code,.int .i64 a.kind,.int .i64 a.basis,.int .i64 a.parent] 68));clear hk1))
    go_ret
    rw [HF.out]
    exact ⟨retb (by simp),K2.out.alloc _⟩
end Go.Proofs.YtoaidbhiciaeaaaGreat

end
section
namespace Go.Proofs.YtoaidbhiciaeaaaGreat
open Go.RowKit Go.Maps
theorem keyOf_link {a b c:Int} (ha:I64 a) (hb:I64 b) (hc:I64 c):keyOf Tryz.prog 162 (.agg #[.int .i64 a,.int .i64 b,.int .i64 c])=some (.string (keyBytes [.int .i64 a,.int .i64 b,.int .i64 c])):=by
 unfold keyOf
 rw [Tryz.underlying162]
 have h1:Tryz.prog.keyType 162=true:=by kernel_rfl
 have h2:(Value.agg #[.int .i64 a,.int .i64 b,.int .i64 c]).formed Tryz.prog 162=true:=by
  have:Tryz.prog.cellsOf 162=3:=by kernel_rfl
  simp [Value.formed,Tryz.underlying162,this]
 have hs:Tryz.prog.types.size=(Tryz.prog.types.size - 1)+1:=by
  have:0 < Tryz.prog.types.size:=of_decide_eq_true (by kernel_rfl)
  omega
 have h3:Tryz.prog.keyLits (Tryz.prog.types.size+1) 162 [.int .i64 a,.int .i64 b,.int .i64 c]=some [.int .i64 a,.int .i64 b,.int .i64 c]:=by
  have hi:∀ d x,I64 x→Tryz.prog.keyLits (d+1) 3 [.int .i64 x]=some [.int .i64 x]:=fun d x h=>keyLits_int Tryz.underlying3 h
  have c3:Tryz.prog.cellsOf 162=3:=by kernel_rfl
  have c1:Tryz.prog.cellsOf 3=1:=by kernel_rfl
  unfold Program.keyLits
  rw [Tryz.underlying162]
  rw [hs]
  simp [c3,c1,hi,ha,hb,hc]
 simp only [h1,h2,Bool.and_self,if_true]
 show (Tryz.prog.keyLits (Tryz.prog.types.size+1) 162 [.int .i64 a,.int .i64 b,.int .i64 c]).map _=_
 rw [h3]
 rfl
theorem linkKeyed:Keyed Tryz.prog 162:=Keyed.of_law (deep_law_laid laidOutK (m:=2) (by omega) (of_decide_eq_true (by kernel_rfl)) (by kernel_rfl) (by rw [Tryz.underlying162]))
def linkK:KeyEnc Tryz.prog 162 Lnk where
 enc l:=.agg #[.int .i64 l.frm,.int .i64 l.to,.int .i64 l.since]
 lit l:=.string (keyBytes [.int .i64 l.frm,.int .i64 l.to,.int .i64 l.since])
 ok l:=I64 l.frm∧I64 l.to∧I64 l.since
 keyed:=linkKeyed
 key l h:=keyOf_link h.1 h.2.1 h.2.2
 inj a b _ _ h:=by
  obtain ⟨a0,a1,a2⟩:=a
  obtain ⟨b0,b1,b2⟩:=b
  simpa using h
end Go.Proofs.YtoaidbhiciaeaaaGreat

end
section
namespace Go.Proofs.YtoaidbhiciaeaaaGreat
open Go.RowKit
def keyL (l:Lnk):Lnk:=⟨l.frm,0,l.since⟩
def sameK (a b:Lnk):Bool:=a.frm == b.frm && a.since == b.since
def seenL (ls:List Lnk):Lnk→Option Value:=fun d=>if ls.any (fun l=>sameK l d) && d.to == 0 then some (.bool true) else none
theorem seenL_nil:seenL []=fun _=>none:=by funext d;simp [seenL]
theorem seenL_get (ls:List Lnk) (l:Lnk):(seenL ls (keyL l)).getD (.bool false)=.bool (ls.any (fun a=>sameK a l)):=by
 unfold seenL
 have:(ls.any fun a=>sameK a (keyL l))=ls.any (fun a=>sameK a l):=rfl
 rw [this]
 cases ls.any (fun a=>sameK a l) <;> simp [keyL]
theorem seenL_snoc (ls:List Lnk) (l:Lnk):seenL (ls ++ [l]) (keyL l)=some (.bool true)∧∀ d,d≠keyL l→seenL (ls ++ [l]) d=seenL ls d:=by
 refine ⟨by simp [seenL,sameK,keyL],fun d hd=>?_⟩
 unfold seenL
 have:(sameK l d && d.to == 0)=false:=by
  rw [Bool.eq_false_iff]
  intro h
  apply hd
  obtain ⟨d0,d1,d2⟩:=d
  simp only [sameK,Bool.and_eq_true,beq_iff_eq] at h
  simp [keyL,h]
 have h2:((ls ++ [l]).any (fun a=>sameK a d) && d.to == 0)=(ls.any (fun a=>sameK a d) && d.to == 0):=by
  rw [List.any_append]
  simp only [List.any_cons,List.any_nil,Bool.or_false]
  cases h3:ls.any (fun a=>sameK a d) <;> simp_all
 rw [h2]
def okL (x c:List Acc) (ls:List Lnk) (k:Nat):Bool:=match ls[k]? with
 | none=>true
 | some l=>!((ls.take k).any (fun a=>sameK a l)) && linkB x c l
def mvalidB (en:Ent) (c:List Acc):Bool:=validRB c true && validRB en.chart false && decide (en.links.length≤400) && (List.range en.links.length).all (okL en.chart c en.links)
theorem okL_at {x c:List Acc} {ls:List Lnk} {k:Nat} (hk:k < ls.length):okL x c ls k=(!((ls.take k).any (fun a=>sameK a ls[k])) && linkB x c ls[k]):=by
 unfold okL;rw [List.getElem?_eq_getElem hk]
theorem mvalidB_bad {en:Ent} {c:List Acc} {k:Nat} (hk:k < en.links.length) (h:okL en.chart c en.links k=false):mvalidB en c=false:=by
 unfold mvalidB
 rw [all_range_false hk h,Bool.and_false]
theorem mvalidB_good {en:Ent} {c:List Acc} (h1:validRB c true=true) (h2:validRB en.chart false=true) (h3:en.links.length≤400) (h:∀ k < en.links.length,okL en.chart c en.links k=true):mvalidB en c=true:=by
 unfold mvalidB
 rw [h1,h2,decide_eq_true h3,List.all_eq_true.2 (fun k hk=>h k (List.mem_range.1 hk))]
 rfl
theorem mvalidB_1 {en:Ent} {c:List Acc} (h:validRB c true=false):mvalidB en c=false:=by unfold mvalidB;rw [h];rfl
theorem mvalidB_2 {en:Ent} {c:List Acc} (h:validRB en.chart false=false):mvalidB en c=false:=by unfold mvalidB;rw [h,Bool.and_false];rfl
end Go.Proofs.YtoaidbhiciaeaaaGreat

end
