/- Walks and plain facts that the claim rests on (RValidW). No condition. -/
import Derived.Test.YtoaidbhiciaeaaaGreatPo10
import Derived.Test.YtoaidbhiciaeaaaGreatPo09
set_option linter.unusedSimpArgs false
set_option linter.unusedVariables false
set_option maxHeartbeats 16000000
section
namespace Go.Proofs.YtoaidbhiciaeaaaGreat
open Go.RowKit
theorem rclimb_len (l:List Acc) (c:Int) (ao:Option Addr) (cap b o:Nat) (hl:l.length≤1000):∃ n:Nat,(climbR l c).length=n∧∀ W,Accs W ao l cap b o→Calls Tryz.prog 168 #[.slice ao l.length cap,.int .i64 c] W fun e w'=>∃ ao2 cap2,e=.returned (.slice ao2 n cap2)∧Keeps W w':=by
 refine ⟨_,rfl,fun W H=>(rclimb_any l c ao cap b o W H hl).mono ?_⟩
 rintro e w' ⟨v,rfl,⟨ao2,cap2,b2,o2,rfl,hs⟩,hk⟩
 exact ⟨ao2,cap2,rfl,hk⟩
theorem pathR_le {l:List Acc}:∀ (n:Nat) (c:Int),(pathR l n c).length≤n
 | 0,_=>by simp [pathR]
 | n+1,c=>by
  simp only [pathR]
  split
  ·simp
  ·simp only [List.length_cons];have:=pathR_le (l:=l) n;rename_i a _;have:=this a.parent;omega
theorem rclimb_le (l:List Acc) (c:Int):(climbR l c).length≤l.length+1:=pathR_le _ _
theorem validRB_bad {l:List Acc} {group:Bool} {k:Nat} (hk:k < l.length) (h:okR l group k=false):validRB l group=false:=by
 unfold validRB;rw [all_range_false hk h,Bool.and_false]
theorem validRB_good {l:List Acc} {group:Bool} (h:∀ k < l.length,okR l group k=true):validRB l group=decide (l.length≤200):=by
 unfold validRB
 rw [List.all_eq_true.2 (fun k hk=>h k (List.mem_range.1 hk)),Bool.and_true]
set_option maxRecDepth 100000 in
theorem rvalid_any (l:List Acc) (group:Bool) (ao:Option Addr) (cap b o:Nat) (w:World) (H:Accs w ao l cap b o) (hl:l.length≤200) :
  Calls Tryz.prog 132 #[.slice ao l.length cap,.bool group] w fun e w'=>e=.returned (.bool (validRB l group))∧Keeps w w':=by
 have hcap:=Sl.cap H
 have hle:=Sl.le H
 have HH:=Lib.hid H
 clear H
 go_enter Tryz.func132,Tryz.ntmps132
 go_wp2_with fail
 go_loopw [5] (fun vi wr=>∃ k:Nat,k≤l.length∧vi=.int .i64 k∧Hid (∀ j < k,okR l group j=true)∧Hid (Keeps w wr)) (fun vi _=>l.length - (intOf vi).toNat)
 case atStart=>exact ⟨0,Nat.zero_le _,rfl,Lib.hid (fun j hj=>absurd hj (Nat.not_lt_zero _)),Lib.hid (Keeps.refl w)⟩
 case round=>
  obtain ⟨k,hk,rfl,HN,HW⟩:=hrel
  by_cases hlt:k < l.length
  ·have HL:=HH.out.keeps HW.out
   have hix:=Sl.at HL Tryz.underlying24 Tryz.sizeOf68 k hlt
   have c0:=HL.cell Acc.len k hlt 0 _ rfl
   have c1:=HL.cell Acc.len k hlt 1 _ rfl
   have c2:=HL.cell Acc.len k hlt 2 _ rfl
   have c3:=HL.cell Acc.len k hlt 3 _ rfl
   simp only [Nat.add_zero] at c0
   obtain ⟨n,hn,hC⟩:=rclimb_len l l[k].code ao cap b o (by omega)
   obtain ⟨pr,hpr⟩:∃ pr,properRB l l[k] group=pr:=⟨_,rfl⟩
   have hok:=okR_proper (group:=group) hlt
   rw [hpr,hn] at hok
   have HP:Hid (∀ W,Accs W ao l cap b o→Calls Tryz.prog 167 #[.slice ao l.length cap,.agg #[.int .i64 l[k].code,.int .i64 l[k].kind,.int .i64 l[k].basis,.int .i64 l[k].parent],.bool group] W fun e w'=>e=.returned (.bool pr)∧Keeps W w'):=Lib.hid (fun W h=>by have:=rproper_any l l[k] group ao cap b o W h;rw [hpr] at this;exact this)
   have HC:=Lib.hid hC
   have hn200:n≤100000:=by have:=rclimb_le l l[k].code;omega
   clear hpr hn hC
   cases k with
   | zero=>
    rw [riseB_zero,Bool.and_true] at hok
    have HOK:=Lib.hid hok
    simp only [Nat.zero_mul,Nat.add_zero,Int.natCast_zero] at hix c0 c1 c2 c3
    have HS:Hid (∀ w',Keeps wr.drew w'→w'.cell? ⟨b,o,none⟩=some (.int .i64 l[0].code)∧w'.cell? ⟨b,o+1,none⟩=some (.int .i64 l[0].kind)∧w'.cell? ⟨b,o+2,none⟩=some (.int .i64 l[0].basis)∧w'.cell? ⟨b,o+3,none⟩=some (.int .i64 l[0].parent)∧True):=Lib.hid (fun w' h=>have h:=(Keeps.refl wr).drew.trans h;⟨h.cell c0,h.cell c1,h.cell c2,h.cell c3,trivial⟩)
    clear HL c0 c1 c2 c3 hok
    go_wp2_with fail
    refine wp_region_steps (A:=?_) Keeps [some 15,some 16,some 17,some 18,some 19,some 20,some 21,some 22,some 23,some 24,some 25,some 26,some 27,some 28,some 29,some 30,some 31,some 32,some 33,some 34,some 35,some 36,some 37,some 38,some 39,some 40,some 41,some 42,some 43,some 44,some 45,some 46,some 47,some 48,some 49,some 50,some 51,some 52,some 53] [[],[],[],[1,2],[3],[],[0,4,5],[6],[7],[8],[8,9],[8,10],[11],[11],[11,12,13],[11,14],[11,15],[11],[11],[11,18],[11,17,19],[11,20],[11,21],[11,16,22],[8,11,23],[8,24],[25],[26],[26],[26],[26,28,29],[26,30],[26,31],[26,27,32],[26,33],[26],[26,35],[26,34,36],[26,37]] 39 (by kernel_rfl) (by kernel_rfl) (by kernel_rfl) (by kernel_rfl) (by kernel_rfl) (by kernel_rfl) Keeps.refl (fun _ _ _=>Keeps.trans) ?_ ?_
    rotate_left
    ·intro f;simp only [putL,Act.put,List.setIfInBounds_toArray,List.set_cons_zero,List.set_cons_succ,Nat.zero_add,Nat.reduceAdd];exact rfl
    iterate 6 (refine Steps.pure (v:=?_) Keeps.refl rfl (fun f w' hR hV=>⟨?_,?_⟩) ?_;rotate_left;(focus rfl);(focus ((repeat (obtain ⟨hq,hV⟩:=hV;(try replace hq:_=_:=hq)));obtain ⟨c0,c1,c2,c3,d0⟩:=HS.out _ hR;go_simp;all_goals (try with_reducible rfl))))
    refine Steps.call (fun _ v=>v=.bool pr) rfl (fun _ _ _ _ h=>h) (fun f w' hR hV=>⟨?_,?_⟩) ?_
    ·(rfl)
    ·(obtain ⟨h0,h4,h5,_⟩:=hV;replace h0:f 0=_:=h0;replace h4:f 4=_:=h4;replace h5:f 5=_:=h5;obtain ⟨c0,c1,c2,c3,d0⟩:=HS.out _ hR;go_simp;go_at_call 167;refine (HP.out _ (HH.out.keeps (HW.out.drew.trans hR))).mono ?_;rintro e w2 ⟨rfl,hk2⟩;exact StepPost.of _ rfl rfl hk2)
    iterate 2 (refine Steps.pure (v:=?_) Keeps.refl rfl (fun f w' hR hV=>⟨?_,?_⟩) ?_;rotate_left;(focus rfl);(focus ((repeat (obtain ⟨hq,hV⟩:=hV;(try replace hq:_=_:=hq)));obtain ⟨c0,c1,c2,c3,d0⟩:=HS.out _ hR;go_simp;all_goals (try with_reducible rfl))))
    cases pr
    all_goals first
     | (refine Steps.pure (v:=?_) Keeps.refl rfl (fun f w' hR hV=>⟨?_,?_⟩) ?_;rotate_left;(focus (obtain ⟨h8,_⟩:=hV;replace h8:f 8=_:=h8;exact want_yes (t:=23) rfl (by kernel_rfl) rfl h8));(focus (obtain ⟨h8,_⟩:=hV;replace h8:f 8=_:=h8;obtain ⟨c0,c1,c2,c3,d0⟩:=HS.out _ hR;go_simp;all_goals (try with_reducible rfl))))
     | (refine Steps.skip rfl (fun f w' hR hV=>?_) ?_;(focus (obtain ⟨h8,_⟩:=hV;replace h8:f 8=_:=h8;first | exact want_no (t:=23) rfl (by kernel_rfl) rfl h8 rfl | exact want_undef (t:=23) rfl (by kernel_rfl) rfl h8)))
    iterate 23 (all_goals first
     | (refine Steps.pure (v:=?_) Keeps.refl rfl (fun f w' hR hV=>⟨?_,?_⟩) ?_;rotate_left;(focus ((repeat (obtain ⟨hq,hV⟩:=hV;(try replace hq:_=_:=hq)));first | exact want_yes rfl rfl rfl (by assumption) | rfl));(focus ((repeat (obtain ⟨hq,hV⟩:=hV;(try replace hq:_=_:=hq)));obtain ⟨c0,c1,c2,c3,d0⟩:=HS.out _ hR;go_simp;all_goals (try with_reducible rfl))))
     | (refine Steps.skip rfl (fun f w' hR hV=>?_) ?_;(focus ((repeat (obtain ⟨hq,hV⟩:=hV;(try replace hq:_=_:=hq)));first | exact want_no rfl rfl rfl (by assumption) rfl | exact want_undef rfl rfl rfl (by assumption)))))
    all_goals first
     | (refine Steps.call (fun _ v=>∃ ao2 cap2,v=.slice ao2 n cap2) rfl (fun _ _ _ _ h=>h) (fun f w' hR hV=>⟨?_,?_⟩) ?_;(focus (obtain ⟨h26,_,_,_⟩:=hV;replace h26:f 26=_:=h26;exact want_yes (t:=41) rfl (by kernel_rfl) rfl h26));(focus (obtain ⟨h26,h27,h32,_⟩:=hV;replace h26:f 26=_:=h26;replace h27:f 27=_:=h27;replace h32:f 32=_:=h32;obtain ⟨c0,c1,c2,c3,d0⟩:=HS.out _ hR;go_simp;go_at_call 168;refine (HC.out _ (HH.out.keeps (HW.out.drew.trans hR))).mono ?_;rintro e w2 ⟨ao2,cap2,rfl,hk2⟩;exact StepPost.of _ rfl ⟨_,_,rfl⟩ hk2)))
     | (refine Steps.skip rfl (fun f w' hR hV=>?_) ?_;(focus (obtain ⟨h26,_,_,_⟩:=hV;replace h26:f 26=_:=h26;first | exact want_no (t:=41) rfl (by kernel_rfl) rfl h26 rfl | exact want_undef (t:=41) rfl (by kernel_rfl) rfl h26)))
    all_goals first
     | (refine Steps.pure (v:=?_) Keeps.refl rfl (fun f w' hR hV=>⟨?_,?_⟩) ?_;rotate_left;(focus (obtain ⟨h26,_,_⟩:=hV;replace h26:f 26=_:=h26;exact want_yes (t:=41) rfl (by kernel_rfl) rfl h26));(focus (obtain ⟨h26,h33,_⟩:=hV;replace h26:f 26=_:=h26;replace h33:∃ ao2 cap2,f 33=.slice ao2 n cap2:=h33;obtain ⟨ao2,cap2,h33⟩:=h33;go_simp;all_goals (try with_reducible rfl))))
     | (refine Steps.skip rfl (fun f w' hR hV=>?_) ?_;(focus (obtain ⟨h26,_,_⟩:=hV;replace h26:f 26=_:=h26;first | exact want_no (t:=41) rfl (by kernel_rfl) rfl h26 rfl | exact want_undef (t:=41) rfl (by kernel_rfl) rfl h26)))
    iterate 4 (all_goals first
     | (refine Steps.pure (v:=?_) Keeps.refl rfl (fun f w' hR hV=>⟨?_,?_⟩) ?_;rotate_left;(focus ((repeat (obtain ⟨hq,hV⟩:=hV;(try replace hq:_=_:=hq)));first | exact want_yes rfl rfl rfl (by assumption) | rfl));(focus ((repeat (obtain ⟨hq,hV⟩:=hV;(try replace hq:_=_:=hq)));obtain ⟨c0,c1,c2,c3,d0⟩:=HS.out _ hR;go_simp;all_goals (try with_reducible rfl))))
     | (refine Steps.skip rfl (fun f w' hR hV=>?_) ?_;(focus ((repeat (obtain ⟨hq,hV⟩:=hV;(try replace hq:_=_:=hq)));first | exact want_no rfl rfl rfl (by assumption) rfl | exact want_undef rfl rfl rfl (by assumption)))))
    all_goals (refine Steps.done [38] (by kernel_rfl) rfl (fun f wq hR hV=>?_);obtain ⟨h38,_⟩:=hV;replace h38:f 38=_:=h38;simp only [h38])
    all_goals (have HR:=Lib.hid (HW.out.drew.trans hR);clear hR)
    ·have HB:=Lib.hid (validRB_bad hlt (HOK.out.trans (Bool.false_and _)))
     go_wp2
     go_ret
     rw [HB.out]
     exact ⟨rfl,HR.out⟩
    ·by_cases hc:n≤l.length
     ·have hc':decide ((l.length:Int) < (n:Int))=false:=decide_eq_false (by omega)
      go_wp2
      go_roundw
      case rel=>exact ⟨1,by omega,by go_num,Lib.hid (fun j hj=>by obtain rfl:j=0:=(by omega);exact HOK.out.trans (by rw [decide_eq_true hc];rfl)),HR⟩
      case measure=>simp [intOf];omega
     ·have hc':decide ((l.length:Int) < (n:Int))=true:=decide_eq_true (by omega)
      have HB:=Lib.hid (validRB_bad hlt (by rw [HOK.out,decide_eq_false hc];rfl))
      go_wp2
      go_ret
      rw [HB.out]
      exact ⟨rfl,HR.out⟩
   | succ m=>
    rw [riseB_succ hlt] at hok
    have hm2:m < l.length:=by omega
    have hix2:=Sl.at HL Tryz.underlying24 Tryz.sizeOf68 m hm2
    have d0:=HL.cell Acc.len m hm2 0 _ rfl
    simp only [Nat.add_zero] at d0
    rw [show (((m+1:Nat)):Int)=(m:Int)+1 from by omega] at hix
    have e2:decide ((0:Int) < (m:Int)+1)=true:=decide_eq_true (by omega)
    have hw1:IntKind.i64.wrap (m:Int)=(m:Int):=IntWalk.i64_in _ (by omega)
    have HS:Hid (∀ w',Keeps wr.drew w'→w'.cell? ⟨b,o+(m+1) * 4,none⟩=some (.int .i64 l[m+1].code)∧w'.cell? ⟨b,o+(m+1) * 4+1,none⟩=some (.int .i64 l[m+1].kind)∧w'.cell? ⟨b,o+(m+1) * 4+2,none⟩=some (.int .i64 l[m+1].basis)∧w'.cell? ⟨b,o+(m+1) * 4+3,none⟩=some (.int .i64 l[m+1].parent)∧w'.cell? ⟨b,o+m * 4,none⟩=some (.int .i64 l[m].code)):=Lib.hid (fun w' h=>have h:=(Keeps.refl wr).drew.trans h;⟨h.cell c0,h.cell c1,h.cell c2,h.cell c3,h.cell d0⟩)
    clear HL c0 c1 c2 c3 d0
    by_cases hr:l[m].code < l[m+1].code
    ·have e1:decide (l[m+1].code≤l[m].code)=false:=decide_eq_false (by omega)
     rw [decide_eq_true hr,Bool.and_true] at hok
     have HOK:=Lib.hid hok
     clear hok hr
     go_wp2_with fail
     refine wp_region_steps (A:=?_) Keeps [some 15,some 16,some 17,some 18,some 19,some 20,some 21,some 22,some 23,some 24,some 25,some 26,some 27,some 28,some 29,some 30,some 31,some 32,some 33,some 34,some 35,some 36,some 37,some 38,some 39,some 40,some 41,some 42,some 43,some 44,some 45,some 46,some 47,some 48,some 49,some 50,some 51,some 52,some 53] [[],[],[],[1,2],[3],[],[0,4,5],[6],[7],[8],[8,9],[8,10],[11],[11],[11,12,13],[11,14],[11,15],[11],[11],[11,18],[11,17,19],[11,20],[11,21],[11,16,22],[8,11,23],[8,24],[25],[26],[26],[26],[26,28,29],[26,30],[26,31],[26,27,32],[26,33],[26],[26,35],[26,34,36],[26,37]] 39 (by kernel_rfl) (by kernel_rfl) (by kernel_rfl) (by kernel_rfl) (by kernel_rfl) (by kernel_rfl) Keeps.refl (fun _ _ _=>Keeps.trans) ?_ ?_
     rotate_left
     ·intro f;simp only [putL,Act.put,List.setIfInBounds_toArray,List.set_cons_zero,List.set_cons_succ,Nat.zero_add,Nat.reduceAdd];exact rfl
     iterate 6 (refine Steps.pure (v:=?_) Keeps.refl rfl (fun f w' hR hV=>⟨?_,?_⟩) ?_;rotate_left;(focus rfl);(focus ((repeat (obtain ⟨hq,hV⟩:=hV;(try replace hq:_=_:=hq)));obtain ⟨c0,c1,c2,c3,d0⟩:=HS.out _ hR;go_simp;all_goals (try with_reducible rfl))))
     refine Steps.call (fun _ v=>v=.bool pr) rfl (fun _ _ _ _ h=>h) (fun f w' hR hV=>⟨?_,?_⟩) ?_
     ·(rfl)
     ·(obtain ⟨h0,h4,h5,_⟩:=hV;replace h0:f 0=_:=h0;replace h4:f 4=_:=h4;replace h5:f 5=_:=h5;obtain ⟨c0,c1,c2,c3,d0⟩:=HS.out _ hR;go_simp;go_at_call 167;refine (HP.out _ (HH.out.keeps (HW.out.drew.trans hR))).mono ?_;rintro e w2 ⟨rfl,hk2⟩;exact StepPost.of _ rfl rfl hk2)
     iterate 2 (refine Steps.pure (v:=?_) Keeps.refl rfl (fun f w' hR hV=>⟨?_,?_⟩) ?_;rotate_left;(focus rfl);(focus ((repeat (obtain ⟨hq,hV⟩:=hV;(try replace hq:_=_:=hq)));obtain ⟨c0,c1,c2,c3,d0⟩:=HS.out _ hR;go_simp;all_goals (try with_reducible rfl))))
     cases pr
     all_goals first
      | (refine Steps.pure (v:=?_) Keeps.refl rfl (fun f w' hR hV=>⟨?_,?_⟩) ?_;rotate_left;(focus (obtain ⟨h8,_⟩:=hV;replace h8:f 8=_:=h8;exact want_yes (t:=23) rfl (by kernel_rfl) rfl h8));(focus (obtain ⟨h8,_⟩:=hV;replace h8:f 8=_:=h8;obtain ⟨c0,c1,c2,c3,d0⟩:=HS.out _ hR;go_simp;all_goals (try with_reducible rfl))))
      | (refine Steps.skip rfl (fun f w' hR hV=>?_) ?_;(focus (obtain ⟨h8,_⟩:=hV;replace h8:f 8=_:=h8;first | exact want_no (t:=23) rfl (by kernel_rfl) rfl h8 rfl | exact want_undef (t:=23) rfl (by kernel_rfl) rfl h8)))
     iterate 23 (all_goals first
      | (refine Steps.pure (v:=?_) Keeps.refl rfl (fun f w' hR hV=>⟨?_,?_⟩) ?_;rotate_left;(focus ((repeat (obtain ⟨hq,hV⟩:=hV;(try replace hq:_=_:=hq)));first | exact want_yes rfl rfl rfl (by assumption) | rfl));(focus ((repeat (obtain ⟨hq,hV⟩:=hV;(try replace hq:_=_:=hq)));obtain ⟨c0,c1,c2,c3,d0⟩:=HS.out _ hR;go_simp;all_goals (try with_reducible rfl))))
      | (refine Steps.skip rfl (fun f w' hR hV=>?_) ?_;(focus ((repeat (obtain ⟨hq,hV⟩:=hV;(try replace hq:_=_:=hq)));first | exact want_no rfl rfl rfl (by assumption) rfl | exact want_undef rfl rfl rfl (by assumption)))))
     all_goals first
      | (refine Steps.call (fun _ v=>∃ ao2 cap2,v=.slice ao2 n cap2) rfl (fun _ _ _ _ h=>h) (fun f w' hR hV=>⟨?_,?_⟩) ?_;(focus (obtain ⟨h26,_,_,_⟩:=hV;replace h26:f 26=_:=h26;exact want_yes (t:=41) rfl (by kernel_rfl) rfl h26));(focus (obtain ⟨h26,h27,h32,_⟩:=hV;replace h26:f 26=_:=h26;replace h27:f 27=_:=h27;replace h32:f 32=_:=h32;obtain ⟨c0,c1,c2,c3,d0⟩:=HS.out _ hR;go_simp;go_at_call 168;refine (HC.out _ (HH.out.keeps (HW.out.drew.trans hR))).mono ?_;rintro e w2 ⟨ao2,cap2,rfl,hk2⟩;exact StepPost.of _ rfl ⟨_,_,rfl⟩ hk2)))
      | (refine Steps.skip rfl (fun f w' hR hV=>?_) ?_;(focus (obtain ⟨h26,_,_,_⟩:=hV;replace h26:f 26=_:=h26;first | exact want_no (t:=41) rfl (by kernel_rfl) rfl h26 rfl | exact want_undef (t:=41) rfl (by kernel_rfl) rfl h26)))
     all_goals first
      | (refine Steps.pure (v:=?_) Keeps.refl rfl (fun f w' hR hV=>⟨?_,?_⟩) ?_;rotate_left;(focus (obtain ⟨h26,_,_⟩:=hV;replace h26:f 26=_:=h26;exact want_yes (t:=41) rfl (by kernel_rfl) rfl h26));(focus (obtain ⟨h26,h33,_⟩:=hV;replace h26:f 26=_:=h26;replace h33:∃ ao2 cap2,f 33=.slice ao2 n cap2:=h33;obtain ⟨ao2,cap2,h33⟩:=h33;go_simp;all_goals (try with_reducible rfl))))
      | (refine Steps.skip rfl (fun f w' hR hV=>?_) ?_;(focus (obtain ⟨h26,_,_⟩:=hV;replace h26:f 26=_:=h26;first | exact want_no (t:=41) rfl (by kernel_rfl) rfl h26 rfl | exact want_undef (t:=41) rfl (by kernel_rfl) rfl h26)))
     iterate 4 (all_goals first
      | (refine Steps.pure (v:=?_) Keeps.refl rfl (fun f w' hR hV=>⟨?_,?_⟩) ?_;rotate_left;(focus ((repeat (obtain ⟨hq,hV⟩:=hV;(try replace hq:_=_:=hq)));first | exact want_yes rfl rfl rfl (by assumption) | rfl));(focus ((repeat (obtain ⟨hq,hV⟩:=hV;(try replace hq:_=_:=hq)));obtain ⟨c0,c1,c2,c3,d0⟩:=HS.out _ hR;go_simp;all_goals (try with_reducible rfl))))
      | (refine Steps.skip rfl (fun f w' hR hV=>?_) ?_;(focus ((repeat (obtain ⟨hq,hV⟩:=hV;(try replace hq:_=_:=hq)));first | exact want_no rfl rfl rfl (by assumption) rfl | exact want_undef rfl rfl rfl (by assumption)))))
     all_goals (refine Steps.done [38] (by kernel_rfl) rfl (fun f wq hR hV=>?_);obtain ⟨h38,_⟩:=hV;replace h38:f 38=_:=h38;simp only [h38])
     all_goals (have HR:=Lib.hid (HW.out.drew.trans hR);clear hR)
     ·have HB:=Lib.hid (validRB_bad hlt (HOK.out.trans (Bool.false_and _)))
      go_wp2
      go_ret
      rw [HB.out]
      exact ⟨rfl,HR.out⟩
     ·by_cases hc:n≤l.length
      ·have hc':decide ((l.length:Int) < (n:Int))=false:=decide_eq_false (by omega)
       go_wp2
       go_roundw
       case rel=>exact ⟨m+1+1,by omega,by go_num,Lib.hid (fun j hj=>by
        rcases Nat.lt_succ_iff_lt_or_eq.1 hj with h | rfl
        ·exact HN.out j h
        ·exact HOK.out.trans (by rw [decide_eq_true hc];rfl)),HR⟩
       case measure=>simp [intOf];omega
      ·have hc':decide ((l.length:Int) < (n:Int))=true:=decide_eq_true (by omega)
       have HB:=Lib.hid (validRB_bad hlt (by rw [HOK.out,decide_eq_false hc];rfl))
       go_wp2
       go_ret
       rw [HB.out]
       exact ⟨rfl,HR.out⟩
    ·have e1:decide (l[m+1].code≤l[m].code)=true:=decide_eq_true (by omega)
     rw [decide_eq_false hr,Bool.and_false,Bool.false_and] at hok
     have HB:=Lib.hid (validRB_bad hlt hok)
     clear hok hr
     go_wp2_with fail
     refine wp_region_steps (A:=?_) Keeps [some 15,some 16,some 17,some 18,some 19,some 20,some 21,some 22,some 23,some 24,some 25,some 26,some 27,some 28,some 29,some 30,some 31,some 32,some 33,some 34,some 35,some 36,some 37,some 38,some 39,some 40,some 41,some 42,some 43,some 44,some 45,some 46,some 47,some 48,some 49,some 50,some 51,some 52,some 53] [[],[],[],[1,2],[3],[],[0,4,5],[6],[7],[8],[8,9],[8,10],[11],[11],[11,12,13],[11,14],[11,15],[11],[11],[11,18],[11,17,19],[11,20],[11,21],[11,16,22],[8,11,23],[8,24],[25],[26],[26],[26],[26,28,29],[26,30],[26,31],[26,27,32],[26,33],[26],[26,35],[26,34,36],[26,37]] 39 (by kernel_rfl) (by kernel_rfl) (by kernel_rfl) (by kernel_rfl) (by kernel_rfl) (by kernel_rfl) Keeps.refl (fun _ _ _=>Keeps.trans) ?_ ?_
     rotate_left
     ·intro f;simp only [putL,Act.put,List.setIfInBounds_toArray,List.set_cons_zero,List.set_cons_succ,Nat.zero_add,Nat.reduceAdd];exact rfl
     iterate 6 (refine Steps.pure (v:=?_) Keeps.refl rfl (fun f w' hR hV=>⟨?_,?_⟩) ?_;rotate_left;(focus rfl);(focus ((repeat (obtain ⟨hq,hV⟩:=hV;(try replace hq:_=_:=hq)));obtain ⟨c0,c1,c2,c3,d0⟩:=HS.out _ hR;go_simp;all_goals (try with_reducible rfl))))
     refine Steps.call (fun _ v=>v=.bool pr) rfl (fun _ _ _ _ h=>h) (fun f w' hR hV=>⟨?_,?_⟩) ?_
     ·(rfl)
     ·(obtain ⟨h0,h4,h5,_⟩:=hV;replace h0:f 0=_:=h0;replace h4:f 4=_:=h4;replace h5:f 5=_:=h5;obtain ⟨c0,c1,c2,c3,d0⟩:=HS.out _ hR;go_simp;go_at_call 167;refine (HP.out _ (HH.out.keeps (HW.out.drew.trans hR))).mono ?_;rintro e w2 ⟨rfl,hk2⟩;exact StepPost.of _ rfl rfl hk2)
     iterate 2 (refine Steps.pure (v:=?_) Keeps.refl rfl (fun f w' hR hV=>⟨?_,?_⟩) ?_;rotate_left;(focus rfl);(focus ((repeat (obtain ⟨hq,hV⟩:=hV;(try replace hq:_=_:=hq)));obtain ⟨c0,c1,c2,c3,d0⟩:=HS.out _ hR;go_simp;all_goals (try with_reducible rfl))))
     cases pr
     all_goals first
      | (refine Steps.pure (v:=?_) Keeps.refl rfl (fun f w' hR hV=>⟨?_,?_⟩) ?_;rotate_left;(focus (obtain ⟨h8,_⟩:=hV;replace h8:f 8=_:=h8;exact want_yes (t:=23) rfl (by kernel_rfl) rfl h8));(focus (obtain ⟨h8,_⟩:=hV;replace h8:f 8=_:=h8;obtain ⟨c0,c1,c2,c3,d0⟩:=HS.out _ hR;go_simp;all_goals (try with_reducible rfl))))
      | (refine Steps.skip rfl (fun f w' hR hV=>?_) ?_;(focus (obtain ⟨h8,_⟩:=hV;replace h8:f 8=_:=h8;first | exact want_no (t:=23) rfl (by kernel_rfl) rfl h8 rfl | exact want_undef (t:=23) rfl (by kernel_rfl) rfl h8)))
     iterate 23 (all_goals first
      | (refine Steps.pure (v:=?_) Keeps.refl rfl (fun f w' hR hV=>⟨?_,?_⟩) ?_;rotate_left;(focus ((repeat (obtain ⟨hq,hV⟩:=hV;(try replace hq:_=_:=hq)));first | exact want_yes rfl rfl rfl (by assumption) | rfl));(focus ((repeat (obtain ⟨hq,hV⟩:=hV;(try replace hq:_=_:=hq)));obtain ⟨c0,c1,c2,c3,d0⟩:=HS.out _ hR;go_simp;all_goals (try with_reducible rfl))))
      | (refine Steps.skip rfl (fun f w' hR hV=>?_) ?_;(focus ((repeat (obtain ⟨hq,hV⟩:=hV;(try replace hq:_=_:=hq)));first | exact want_no rfl rfl rfl (by assumption) rfl | exact want_undef rfl rfl rfl (by assumption)))))
     all_goals first
      | (refine Steps.call (fun _ v=>∃ ao2 cap2,v=.slice ao2 n cap2) rfl (fun _ _ _ _ h=>h) (fun f w' hR hV=>⟨?_,?_⟩) ?_;(focus (obtain ⟨h26,_,_,_⟩:=hV;replace h26:f 26=_:=h26;exact want_yes (t:=41) rfl (by kernel_rfl) rfl h26));(focus (obtain ⟨h26,h27,h32,_⟩:=hV;replace h26:f 26=_:=h26;replace h27:f 27=_:=h27;replace h32:f 32=_:=h32;obtain ⟨c0,c1,c2,c3,d0⟩:=HS.out _ hR;go_simp;go_at_call 168;refine (HC.out _ (HH.out.keeps (HW.out.drew.trans hR))).mono ?_;rintro e w2 ⟨ao2,cap2,rfl,hk2⟩;exact StepPost.of _ rfl ⟨_,_,rfl⟩ hk2)))
      | (refine Steps.skip rfl (fun f w' hR hV=>?_) ?_;(focus (obtain ⟨h26,_,_,_⟩:=hV;replace h26:f 26=_:=h26;first | exact want_no (t:=41) rfl (by kernel_rfl) rfl h26 rfl | exact want_undef (t:=41) rfl (by kernel_rfl) rfl h26)))
     all_goals first
      | (refine Steps.pure (v:=?_) Keeps.refl rfl (fun f w' hR hV=>⟨?_,?_⟩) ?_;rotate_left;(focus (obtain ⟨h26,_,_⟩:=hV;replace h26:f 26=_:=h26;exact want_yes (t:=41) rfl (by kernel_rfl) rfl h26));(focus (obtain ⟨h26,h33,_⟩:=hV;replace h26:f 26=_:=h26;replace h33:∃ ao2 cap2,f 33=.slice ao2 n cap2:=h33;obtain ⟨ao2,cap2,h33⟩:=h33;go_simp;all_goals (try with_reducible rfl))))
      | (refine Steps.skip rfl (fun f w' hR hV=>?_) ?_;(focus (obtain ⟨h26,_,_⟩:=hV;replace h26:f 26=_:=h26;first | exact want_no (t:=41) rfl (by kernel_rfl) rfl h26 rfl | exact want_undef (t:=41) rfl (by kernel_rfl) rfl h26)))
     iterate 4 (all_goals first
      | (refine Steps.pure (v:=?_) Keeps.refl rfl (fun f w' hR hV=>⟨?_,?_⟩) ?_;rotate_left;(focus ((repeat (obtain ⟨hq,hV⟩:=hV;(try replace hq:_=_:=hq)));first | exact want_yes rfl rfl rfl (by assumption) | rfl));(focus ((repeat (obtain ⟨hq,hV⟩:=hV;(try replace hq:_=_:=hq)));obtain ⟨c0,c1,c2,c3,d0⟩:=HS.out _ hR;go_simp;all_goals (try with_reducible rfl))))
      | (refine Steps.skip rfl (fun f w' hR hV=>?_) ?_;(focus ((repeat (obtain ⟨hq,hV⟩:=hV;(try replace hq:_=_:=hq)));first | exact want_no rfl rfl rfl (by assumption) rfl | exact want_undef rfl rfl rfl (by assumption)))))
     all_goals (refine Steps.done [38] (by kernel_rfl) rfl (fun f wq hR hV=>?_);obtain ⟨h38,_⟩:=hV;replace h38:f 38=_:=h38;simp only [h38])
     all_goals (have HR:=Lib.hid (HW.out.drew.trans hR);clear hR)
     all_goals (go_wp2;go_ret;rw [HB.out];exact ⟨rfl,HR.out⟩)
  ·obtain rfl:k=l.length:=by omega
   have HB:=Lib.hid ((validRB_good (fun j hj=>HN.out j hj)).trans (decide_eq_true hl))
   go_wp2_with fail
   go_ret
   rw [HB.out]
   exact ⟨rfl,HW.out⟩
end Go.Proofs.YtoaidbhiciaeaaaGreat

end
