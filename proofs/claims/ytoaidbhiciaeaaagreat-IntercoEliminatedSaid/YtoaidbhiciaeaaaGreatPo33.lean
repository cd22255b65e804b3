/- Walks and plain facts that the claim rests on (RGrE). No condition. -/
import Derived.Test.YtoaidbhiciaeaaaGreatPo32
set_option linter.unusedSimpArgs false
set_option linter.unusedVariables false
set_option maxHeartbeats 16000000
section
namespace Go.Proofs.YtoaidbhiciaeaaaGreat
open Go.RowKit
theorem entR_1 {g:Grp} {e:Ent} (h:nameB e.name=false):entR g e=false:=by unfold entR;rw [h];rfl
theorem entR_2 {g:Grp} {e:Ent} (h:curB e.cur=false):entR g e=false:=by unfold entR;rw [h];simp
theorem entR_3 {g:Grp} {e:Ent} (h:mvalidB e g.chart=false):entR g e=false:=by unfold entR;rw [h];simp
theorem entR_4 {g:Grp} {e:Ent} (h1:nameB e.name=true) (h2:curB e.cur=true) (h3:mvalidB e g.chart=true):entR g e=!(e.links.any (fun l=>closedL (rolesL g.rl) l.to)):=by unfold entR;rw [h1,h2,h3];simp
set_option maxRecDepth 100000 in
theorem rent_any (g:Grp) (ev:Value) (e:Ent) (aoC:Option Addr) (capC bC oC:Nat) (aoX:Option Addr) (capX bX oX:Nat) (aoL:Option Addr) (capL bL oL:Nat) (w:World) (H:Accs w aoC g.chart capC bC oC) (HX:Accs w aoX e.chart capX bX oX) (HLn:Lnks w aoL e.links capL bL oL)
  (hlen:g.chart.length≤200) (heo:e.Ok) :
  Calls Tryz.prog 86 #[.agg #[.string g.cur,.int .i64 g.y,.int .i64 g.m,.int .i64 g.n,.slice aoC g.chart.length capC,.int .i64 g.rl.r0,.int .i64 g.rl.r1,.int .i64 g.rl.r2,.int .i64 g.rl.r3,.int .i64 g.rl.r4,.int .i64 g.rl.r5,.int .i64 g.rl.r6,.int .i64 g.rl.r7,.int .i64 g.rl.r8,.int .i64 g.rl.r9,.int .i64 g.rl.r10,.int .i64 g.rl.r11,.int .i64 g.rl.r12,.int .i64 g.rl.r13,.int .i64 g.rl.r14,ev],.agg #[.string e.name,.string e.cur,.slice aoX e.chart.length capX,.slice aoL e.links.length capL,.bool e.joint]] w fun r w'=>r=.returned (.bool (entR g e))∧Keeps w w':=by
 obtain ⟨ho1,ho2,ho3,ho4,_,_⟩:=heo
 have hcap:=Sl.cap HLn
 have hle:=Sl.le HLn
 have HN:Hid (∀ W,Calls Tryz.prog 136 #[.string e.name] W fun r w'=>r=.returned (.bool (nameB e.name))∧W=w'):=Lib.hid (fun W=>nameR_any _ ho1 W)
 have HU:Hid (∀ W,Calls Tryz.prog 130 #[.string e.cur] W fun r w'=>r=.returned (.bool (curB e.cur))∧W=w'):=Lib.hid (fun W=>curR_any _ ho2 W)
 have HV:Hid (∀ W,Keeps w W→Calls Tryz.prog 137 #[.agg #[.string e.name,.string e.cur,.slice aoX e.chart.length capX,.slice aoL e.links.length capL,.bool e.joint],.slice aoC g.chart.length capC] W fun r w'=>r=.returned (.bool (mvalidB e g.chart))∧Keeps W w'):=Lib.hid (fun W hk=>rmvalid_any e _ g.chart aoC capC bC oC W ⟨_,_,rfl,⟨aoX,capX,bX,oX,rfl,HX.keeps hk⟩,⟨aoL,capL,bL,oL,rfl,HLn.keeps hk⟩⟩ (H.keeps hk) hlen ho3 ho4)
 have HLK:=Lib.hid HLn
 have hrg:=box_range w (g.cells (.slice aoC g.chart.length capC) ev) 29
 have hre:=box_range (w.alloc (.cells (g.cells (.slice aoC g.chart.length capC) ev).toArray 29)) [.string e.name,.string e.cur,.slice aoX e.chart.length capX,.slice aoL e.links.length capL,.bool e.joint] 106
 rw [World.size_alloc] at hre
 replace hrg:=range_keeps hrg ((Keeps.refl _).alloc (.cells #[.string e.name,.string e.cur,.slice aoX e.chart.length capX,.slice aoL e.links.length capL,.bool e.joint] 106))
 have hk0:Keeps w ((w.alloc (.cells (g.cells (.slice aoC g.chart.length capC) ev).toArray 29)).alloc (.cells #[.string e.name,.string e.cur,.slice aoX e.chart.length capX,.slice aoL e.links.length capL,.bool e.joint] 106)):=((Keeps.refl w).alloc _).alloc _
 obtain ⟨W1,hW1⟩:∃ W1,(w.alloc (.cells (g.cells (.slice aoC g.chart.length capC) ev).toArray 29)).alloc (.cells #[.string e.name,.string e.cur,.slice aoX e.chart.length capX,.slice aoL e.links.length capL,.bool e.joint] 106)=W1:=⟨_,rfl⟩
 rw [hW1] at hrg hk0
 have hre:W1.rangeAt (w.heap.size+1) 0 [.string e.name,.string e.cur,.slice aoX e.chart.length capX,.slice aoL e.links.length capL,.bool e.joint]:=by rw [← hW1];exact hre
 have hW2:(w.alloc (.cells #[.string g.cur,.int .i64 g.y,.int .i64 g.m,.int .i64 g.n,.slice aoC g.chart.length capC,.int .i64 g.rl.r0,.int .i64 g.rl.r1,.int .i64 g.rl.r2,.int .i64 g.rl.r3,.int .i64 g.rl.r4,.int .i64 g.rl.r5,.int .i64 g.rl.r6,.int .i64 g.rl.r7,.int .i64 g.rl.r8,.int .i64 g.rl.r9,.int .i64 g.rl.r10,.int .i64 g.rl.r11,.int .i64 g.rl.r12,.int .i64 g.rl.r13,.int .i64 g.rl.r14,ev] 29)).alloc (.cells #[.string e.name,.string e.cur,.slice aoX e.chart.length capX,.slice aoL e.links.length capL,.bool e.joint] 106)=W1:=hW1
 have HK0:=Lib.hid hk0
 have HGG:Hid (∀ W,Keeps W1 W→W.rangeAt w.heap.size 0 (g.cells (.slice aoC g.chart.length capC) ev)):=Lib.hid (fun W hk=>range_keeps hrg hk)
 have g4:=hrg 4 _ rfl
 have d0:=hre 0 _ rfl
 have d1:=hre 1 _ rfl
 have d2:=hre 2 _ rfl
 have d3:=hre 3 _ rfl
 have d4:=hre 4 _ rfl
 simp only [Nat.zero_add] at g4 d0 d1 d2 d3 d4
 clear H HX HLn hrg hre hk0 hW1 ho1 ho2 ho3 ho4 hlen
 cases h1:nameB e.name with
 | false=>
  have HBD:=Lib.hid (entR_1 (g:=g) h1)
  rw [h1] at HN
  clear h1
  go_enter Tryz.func86,Tryz.ntmps86;go_upto_region 1 with fail;(try rw [hW2]);clear hW2
  go_wp2_with (go_at_call 136;(refine (HN.out _).mono ?_);rintro e1 w1 ⟨rfl,rfl⟩)
  go_ret
  rw [HBD.out]
  exact ⟨rfl,HK0.out⟩
 | true=>
 rw [h1] at HN
 cases h2:curB e.cur with
 | false=>
  have HBD:=Lib.hid (entR_2 (g:=g) h2)
  rw [h2] at HU
  clear h1 h2
  go_enter Tryz.func86,Tryz.ntmps86;go_upto_region 1 with fail;(try rw [hW2]);clear hW2
  go_wp2_with (first | (go_at_call 136;(refine (HN.out _).mono ?_);rintro e1 w1 ⟨rfl,rfl⟩) | (go_at_call 130;(refine (HU.out _).mono ?_);rintro e2 w2 ⟨rfl,rfl⟩))
  go_ret
  rw [HBD.out]
  exact ⟨rfl,HK0.out⟩
 | true=>
 rw [h2] at HU
 cases h3:mvalidB e g.chart with
 | false=>
  have HBD:=Lib.hid (entR_3 (g:=g) h3)
  rw [h3] at HV
  clear h1 h2 h3
  go_enter Tryz.func86,Tryz.ntmps86;go_upto_region 1 with fail;(try rw [hW2]);clear hW2
  go_wp2_with (first | (go_at_call 136;(refine (HN.out _).mono ?_);rintro e1 w1 ⟨rfl,rfl⟩) | (go_at_call 130;(refine (HU.out _).mono ?_);rintro e2 w2 ⟨rfl,rfl⟩) | (go_at_call 137;(refine (HV.out _ HK0.out).mono ?_);rintro e3 w3 ⟨rfl,hk3⟩;have K3:=Lib.hid hk3;clear hk3))
  go_ret
  rw [HBD.out]
  exact ⟨rfl,HK0.out.trans K3.out⟩
 | true=>
 rw [h3] at HV
 obtain ⟨l,hl⟩:∃ l,rolesL g.rl=l:=⟨_,rfl⟩
 have hll:l.length=15:=by rw [← hl];rfl
 have hgd:=entR_4 (g:=g) h1 h2 h3
 rw [hl] at hgd
 have HGD:=Lib.hid hgd
 have HRO:Hid (∀ W,Calls Tryz.prog 134 #[.agg #[.int .i64 g.rl.r0,.int .i64 g.rl.r1,.int .i64 g.rl.r2,.int .i64 g.rl.r3,.int .i64 g.rl.r4,.int .i64 g.rl.r5,.int .i64 g.rl.r6,.int .i64 g.rl.r7,.int .i64 g.rl.r8,.int .i64 g.rl.r9,.int .i64 g.rl.r10,.int .i64 g.rl.r11,.int .i64 g.rl.r12,.int .i64 g.rl.r13,.int .i64 g.rl.r14]] W fun e w'=>∃ B,e=.returned (.slice (some ⟨B,0,none⟩) 15 15)∧Recs w' 5 Rol.cells (some ⟨B,0,none⟩) l 15 B 0∧Keeps W w'):=Lib.hid (fun W=>(rolesR_any g.rl W).mono (by rintro e w' ⟨rfl,hs,hk⟩;exact ⟨_,rfl,by rw [← hl];exact hs,hk⟩))
 have HLL:=Lib.hid hll
 have D3:=Lib.hid d3
 clear h1 h2 h3 hl hll hgd
 go_enter Tryz.func86,Tryz.ntmps86;go_upto_region 1 with fail;(try rw [hW2]);clear hW2
 go_wp2_with (first | (go_at_call 136;(refine (HN.out _).mono ?_);rintro e1 w1 ⟨rfl,rfl⟩) | (go_at_call 130;(refine (HU.out _).mono ?_);rintro e2 w2 ⟨rfl,rfl⟩) | (go_at_call 137;(refine (HV.out _ HK0.out).mono ?_);rintro e3 w3 ⟨rfl,hk3⟩;have K3:=Lib.hid hk3;clear hk3) | (refine wpList_load_mid rfl 26 _ rfl w.heap.size 5 rfl g.rl.vals _ (range_sub (HGG.out _ K3.out) 5 _ (grp_roles g _ _)) Tryz.underlying26 rfl rolesSize ?_) | (go_at_call 134;(refine (HRO.out _).mono ?_);rintro e4 w4 ⟨B,rfl,hs4,hk4⟩;have HS4:=Lib.hid hs4;have K4:=Lib.hid (K3.out.trans hk4);clear hs4 hk4))
 clear d0 d1 d2 d3 d4 g4
 go_loopw [6] (fun vi wr=>∃ k:Nat,k≤e.links.length∧vi=.int .i64 k∧Hid (∀ j (hj:j < e.links.length),j < k→(fun x:Lnk=>closedL l x.to) e.links[j]=false)∧Hid (Keeps w4 wr)) (fun vi _=>e.links.length - (intOf vi).toNat)
 case atStart=>exact ⟨0,Nat.zero_le _,rfl,Lib.hid (fun j _ hj=>absurd hj (Nat.not_lt_zero _)),Lib.hid (Keeps.refl _)⟩
 case round=>
  obtain ⟨k,hk,rfl,HN2,HW⟩:=hrel
  have d3:=(K4.out.trans HW.out).cell D3.out
  have hzg:=World.block_lt_of_cell? _ _ d3
  by_cases hlt:k < e.links.length
  ·obtain ⟨x,hxk⟩:∃ x,e.links[k]=x:=⟨_,rfl⟩
   have HXK:=Lib.hid hxk
   clear hxk
   go_wp2_with fail
   clear d3 hzg
   go_loopw [7] (fun vj w8=>∃ j:Nat,j≤15∧vj=.int .i64 j∧Hid (∀ i (hi:i < l.length),i < j→(fun r:Rol=>r.code == x.to && !r.mapped) l[i]=false)∧Hid (Keeps w4 w8)) (fun vj _=>15 - (intOf vj).toNat)
   case atStart=>exact ⟨0,Nat.zero_le _,rfl,Lib.hid (fun i _ h=>absurd h (Nat.not_lt_zero _)),HW⟩
   case round=>
    obtain ⟨j,hj,rfl,HN8,HV8⟩:=hrel
    by_cases hj15:j < 15
    ·have hjl:j < l.length:=by rw [HLL.out];exact hj15
     have hsr:=HS4.out.keeps HV8.out
     have hix2:=Sl.at hsr Tryz.underlying194 Tryz.sizeOf198 j hjl
     rw [HLL.out] at hix2
     have hr:=HLK.out.keeps (HK0.out.trans (K4.out.trans HV8.out))
     have hix:=Sl.at hr Tryz.underlying104 Tryz.sizeOf162 k hlt
     obtain ⟨q,hq⟩:∃ q,l[j]=q:=⟨_,rfl⟩
     obtain ⟨mp,hmp⟩:∃ mp,q.mapped=mp:=⟨_,rfl⟩
     have c1:=hsr.cell Rol.len j hjl 1 (.int .i64 q.code) (by rw [hq];rfl)
     have c4:=hsr.cell Rol.len j hjl 4 (.bool mp) (by rw [hq,← hmp];rfl)
     have l1:=hr.cell Lnk.len k hlt 1 (.int .i64 x.to) (by rw [HXK.out];rfl)
     have d3:=(K4.out.trans HV8.out).cell D3.out
     simp only [Nat.add_zero,Nat.zero_add] at c1 c4 l1 hix hix2
     have HX:Hid (∀ W,Keeps wr.drew W→W.cell? ⟨w.heap.size+1,3,none⟩=some (.slice aoL e.links.length capL)∧W.cell? ⟨bL,oL+k * 3+1,none⟩=some (.int .i64 x.to)∧W.cell? ⟨B,j * 5+1,none⟩=some (.int .i64 q.code)∧W.cell? ⟨B,j * 5+4,none⟩=some (.bool mp)):=Lib.hid (fun W hW=>by
      have hk:=(Keeps.refl wr).drew.trans hW
      exact ⟨hk.cell d3,hk.cell l1,hk.cell c1,hk.cell c4⟩)
     have HQ:=Lib.hid hq
     have HMP:=Lib.hid hmp
     clear hsr hr hq hmp c1 c4 l1 d3
     by_cases he:x.to=q.code
     ·have e1:(x.to == q.code)=true:=by simpa using he
      cases mp with
      | false=>
       have HBD:Hid (entR g e=false):=Lib.hid (by
        rw [HGD.out,any_at (q:=fun x:Lnk=>closedL l x.to) hlt (by
         rw [HXK.out]
         show closedL l x.to=true
         exact any_at (q:=fun r:Rol=>r.code == x.to && !r.mapped) hjl (by rw [HQ.out];simp [HMP.out,he]))]
        rfl)
       clear he
       go_upto_region 10 with fail
       refine wp_region_steps (A:=?_) Keeps [some 41,some 42,some 43,some 44,some 45,some 46,some 47,some 48,some 49,some 50,some 51,some 52,some 53,some 54,some 55,some 56,some 57,some 58,some 59,some 60] [[],[0],[],[1,2],[3],[4],[],[],[6,7],[8],[9],[5,10],[11],[12],[12],[12,13,14],[12,15],[12,16],[12,17],[12,18]] 20 (by kernel_rfl) (by kernel_rfl) (by kernel_rfl) (by kernel_rfl) (by kernel_rfl) (by kernel_rfl) Keeps.refl (fun _ _ _=>Keeps.trans) ?_ ?_
       rotate_left
       ·intro f;simp only [putL,Act.put,List.setIfInBounds_toArray,List.set_cons_zero,List.set_cons_succ,Nat.zero_add,Nat.reduceAdd];exact rfl
       iterate 20 (all_goals first
        | (refine Steps.pure (v:=?_) Keeps.refl rfl (fun f w' hR hV=>⟨?_,?_⟩) ?_;rotate_left;(focus ((repeat (obtain ⟨hq,hV⟩:=hV;(try replace hq:_=_:=hq)));first | exact want_yes rfl rfl rfl (by assumption) | rfl));(focus ((repeat (obtain ⟨hq,hV⟩:=hV;(try replace hq:_=_:=hq)));obtain ⟨d3,l1,c1,c4⟩:=HX.out _ hR;go_simp;all_goals (try with_reducible rfl))))
        | (refine Steps.skip rfl (fun f w' hR hV=>?_) ?_;(focus ((repeat (obtain ⟨hq,hV⟩:=hV;(try replace hq:_=_:=hq)));first | exact want_no rfl rfl rfl (by assumption) rfl | exact want_undef rfl rfl rfl (by assumption)))))
       all_goals (refine Steps.done [19] (by kernel_rfl) rfl (fun f wq hR hV=>?_);obtain ⟨h19,_⟩:=hV;replace h19:f 19=_:=h19;simp only [h19])
       go_wp2_with fail
       go_ret
       rw [HBD.out]
       exact ⟨rfl,HK0.out.trans (K4.out.trans (HV8.out.trans ((Keeps.refl _).drew.trans hR)))⟩
      | true=>
       have HN9:Hid (∀ i (hi:i < l.length),i < j+1→(fun r:Rol=>r.code == x.to && !r.mapped) l[i]=false):=Lib.hid (fun i hi hij=>by
        by_cases e:i < j
        ·exact HN8.out i hi e
        ·obtain rfl:i=j:=by omega
         rw [HQ.out];simp only [HMP.out,Bool.not_true,Bool.and_false])
       clear he
       go_upto_region 10 with fail
       refine wp_region_steps (A:=?_) Keeps [some 41,some 42,some 43,some 44,some 45,some 46,some 47,some 48,some 49,some 50,some 51,some 52,some 53,some 54,some 55,some 56,some 57,some 58,some 59,some 60] [[],[0],[],[1,2],[3],[4],[],[],[6,7],[8],[9],[5,10],[11],[12],[12],[12,13,14],[12,15],[12,16],[12,17],[12,18]] 20 (by kernel_rfl) (by kernel_rfl) (by kernel_rfl) (by kernel_rfl) (by kernel_rfl) (by kernel_rfl) Keeps.refl (fun _ _ _=>Keeps.trans) ?_ ?_
       rotate_left
       ·intro f;simp only [putL,Act.put,List.setIfInBounds_toArray,List.set_cons_zero,List.set_cons_succ,Nat.zero_add,Nat.reduceAdd];exact rfl
       iterate 20 (all_goals first
        | (refine Steps.pure (v:=?_) Keeps.refl rfl (fun f w' hR hV=>⟨?_,?_⟩) ?_;rotate_left;(focus ((repeat (obtain ⟨hq,hV⟩:=hV;(try replace hq:_=_:=hq)));first | exact want_yes rfl rfl rfl (by assumption) | rfl));(focus ((repeat (obtain ⟨hq,hV⟩:=hV;(try replace hq:_=_:=hq)));obtain ⟨d3,l1,c1,c4⟩:=HX.out _ hR;go_simp;all_goals (try with_reducible rfl))))
        | (refine Steps.skip rfl (fun f w' hR hV=>?_) ?_;(focus ((repeat (obtain ⟨hq,hV⟩:=hV;(try replace hq:_=_:=hq)));first | exact want_no rfl rfl rfl (by assumption) rfl | exact want_undef rfl rfl rfl (by assumption)))))
       all_goals (refine Steps.done [19] (by kernel_rfl) rfl (fun f wq hR hV=>?_);obtain ⟨h19,_⟩:=hV;replace h19:f 19=_:=h19;simp only [h19])
       have HVQ:=Lib.hid (HV8.out.trans ((Keeps.refl _).drew.trans hR))
       clear hR HX
       go_wp2_with fail
       go_roundw
       case rel=>exact ⟨j+1,by omega,by go_num,HN9,HVQ⟩
       case measure=>simp [intOf];omega
     ·have e1:(x.to == q.code)=false:=by simpa using he
      have HN9:Hid (∀ i (hi:i < l.length),i < j+1→(fun r:Rol=>r.code == x.to && !r.mapped) l[i]=false):=Lib.hid (fun i hi hij=>by
       by_cases e:i < j
       ·exact HN8.out i hi e
       ·obtain rfl:i=j:=by omega
        rw [HQ.out]
        have:(q.code == x.to)=false:=by simpa using fun h=>he h.symm
        simp only [this,Bool.false_and])
      clear he
      go_upto_region 10 with fail
      refine wp_region_steps (A:=?_) Keeps [some 41,some 42,some 43,some 44,some 45,some 46,some 47,some 48,some 49,some 50,some 51,some 52,some 53,some 54,some 55,some 56,some 57,some 58,some 59,some 60] [[],[0],[],[1,2],[3],[4],[],[],[6,7],[8],[9],[5,10],[11],[12],[12],[12,13,14],[12,15],[12,16],[12,17],[12,18]] 20 (by kernel_rfl) (by kernel_rfl) (by kernel_rfl) (by kernel_rfl) (by kernel_rfl) (by kernel_rfl) Keeps.refl (fun _ _ _=>Keeps.trans) ?_ ?_
      rotate_left
      ·intro f;simp only [putL,Act.put,List.setIfInBounds_toArray,List.set_cons_zero,List.set_cons_succ,Nat.zero_add,Nat.reduceAdd];exact rfl
      iterate 20 (all_goals first
       | (refine Steps.pure (v:=?_) Keeps.refl rfl (fun f w' hR hV=>⟨?_,?_⟩) ?_;rotate_left;(focus ((repeat (obtain ⟨hq,hV⟩:=hV;(try replace hq:_=_:=hq)));first | exact want_yes rfl rfl rfl (by assumption) | rfl));(focus ((repeat (obtain ⟨hq,hV⟩:=hV;(try replace hq:_=_:=hq)));obtain ⟨d3,l1,c1,c4⟩:=HX.out _ hR;go_simp;all_goals (try with_reducible rfl))))
       | (refine Steps.skip rfl (fun f w' hR hV=>?_) ?_;(focus ((repeat (obtain ⟨hq,hV⟩:=hV;(try replace hq:_=_:=hq)));first | exact want_no rfl rfl rfl (by assumption) rfl | exact want_undef rfl rfl rfl (by assumption)))))
      all_goals (refine Steps.done [19] (by kernel_rfl) rfl (fun f wq hR hV=>?_);obtain ⟨h19,_⟩:=hV;replace h19:f 19=_:=h19;simp only [h19])
      have HVQ:=Lib.hid (HV8.out.trans ((Keeps.refl _).drew.trans hR))
      clear hR HX
      go_wp2_with fail
      go_roundw
      case rel=>exact ⟨j+1,by omega,by go_num,HN9,HVQ⟩
      case measure=>simp [intOf];omega
    ·have HN3:Hid (∀ j (hj:j < e.links.length),j < k+1→(fun x:Lnk=>closedL l x.to) e.links[j]=false):=Lib.hid (fun i hi hij=>by
      by_cases h:i < k
      ·exact HN2.out i hi h
      ·obtain rfl:i=k:=by omega
       rw [HXK.out]
       show closedL l x.to=false
       exact any_take_all (q:=fun r:Rol=>r.code == x.to && !r.mapped) (fun j2 hj2=>HN8.out j2 hj2 (by have:=HLL.out;omega)))
     go_wp2_with fail
     go_roundw
     case rel=>exact ⟨k+1,by omega,by go_num,HN3,HV8⟩
     case measure=>simp [intOf];omega
  ·have HGE:=Lib.hid (HGD.out.trans (show (!(e.links.any (fun x:Lnk=>closedL l x.to)))=true from by rw [any_take_all (q:=fun x:Lnk=>closedL l x.to) (fun j hj=>HN2.out j hj (by omega))];rfl))
   go_wp2_with fail
   go_ret
   rw [HGE.out]
   exact ⟨rfl,HK0.out.trans (K4.out.trans HW.out)⟩
end Go.Proofs.YtoaidbhiciaeaaaGreat

end
