/- Walks and plain facts that the claim rests on (RGrB). No condition. -/
import Derived.Test.YtoaidbhiciaeaaaGreatPo31
set_option linter.unusedSimpArgs false
set_option linter.unusedVariables false
set_option maxHeartbeats 16000000
section
namespace Go.Proofs.YtoaidbhiciaeaaaGreat
open Go.RowKit
theorem booksR_1 {g:Grp} (h:curB g.cur=false):booksR g=false:=by unfold booksR;rw [h];rfl
theorem booksR_2 {g:Grp} (h:calB g.y g.m g.n=false):booksR g=false:=by unfold booksR;rw [h];simp
theorem booksR_3 {g:Grp} (h:accB g=false):booksR g=false:=by unfold booksR;rw [h];simp
theorem Acc.one (a:Acc):∀ v∈a.cells,v.oneCell'=true:=by
 intro v hv
 simp only [Acc.cells,List.mem_cons,List.not_mem_nil,or_false] at hv
 rcases hv with rfl | rfl | rfl | rfl <;> rfl
theorem accSize:(Tryz.prog.info? 68).map (·.size)=some 4:=by kernel_rfl
set_option maxRecDepth 100000 in
theorem rbooks_any (g:Grp) (ev:Value) (aoC:Option Addr) (capC bC oC:Nat) (w:World) (H:Accs w aoC g.chart capC bC oC) (ho1:g.cur.size≤maxLen) (hlen:g.chart.length≤200) :
  Calls Tryz.prog 84 #[.agg #[.string g.cur,.int .i64 g.y,.int .i64 g.m,.int .i64 g.n,.slice aoC g.chart.length capC,.int .i64 g.rl.r0,.int .i64 g.rl.r1,.int .i64 g.rl.r2,.int .i64 g.rl.r3,.int .i64 g.rl.r4,.int .i64 g.rl.r5,.int .i64 g.rl.r6,.int .i64 g.rl.r7,.int .i64 g.rl.r8,.int .i64 g.rl.r9,.int .i64 g.rl.r10,.int .i64 g.rl.r11,.int .i64 g.rl.r12,.int .i64 g.rl.r13,.int .i64 g.rl.r14,ev]] w fun e w'=>e=.returned (.bool (booksR g))∧Keeps w w':=by
 have hcap:=Sl.cap H
 have hle:=Sl.le H
 have HC:=Lib.hid H
 have HU:Hid (∀ W,Calls Tryz.prog 130 #[.string g.cur] W fun r w'=>r=.returned (.bool (curB g.cur))∧W=w'):=Lib.hid (fun W=>curR_any _ ho1 W)
 have HCV:Hid (∀ W,Calls Tryz.prog 131 #[.agg #[.int .i64 g.y,.int .i64 g.m,.int .i64 g.n]] W fun r w'=>r=.returned (.bool (calB g.y g.m g.n))∧Keeps W w'):=Lib.hid (fun W=>validR_any g.y g.m g.n W)
 have HV:Hid (∀ W,Keeps w W→Calls Tryz.prog 132 #[.slice aoC g.chart.length capC,.bool true] W fun e w'=>e=.returned (.bool (validRB g.chart true))∧Keeps W w'):=Lib.hid (fun W hk=>rvalid_any g.chart true aoC capC bC oC W (H.keeps hk) hlen)
 have hrg:=box_range w (g.cells (.slice aoC g.chart.length capC) ev) 29
 have hk0:Keeps w (w.alloc (.cells (g.cells (.slice aoC g.chart.length capC) ev).toArray 29)):=(Keeps.refl w).alloc _
 obtain ⟨W1,hW1⟩:∃ W1,w.alloc (.cells (g.cells (.slice aoC g.chart.length capC) ev).toArray 29)=W1:=⟨_,rfl⟩
 rw [hW1] at hrg hk0
 have hW2:w.alloc (.cells #[.string g.cur,.int .i64 g.y,.int .i64 g.m,.int .i64 g.n,.slice aoC g.chart.length capC,.int .i64 g.rl.r0,.int .i64 g.rl.r1,.int .i64 g.rl.r2,.int .i64 g.rl.r3,.int .i64 g.rl.r4,.int .i64 g.rl.r5,.int .i64 g.rl.r6,.int .i64 g.rl.r7,.int .i64 g.rl.r8,.int .i64 g.rl.r9,.int .i64 g.rl.r10,.int .i64 g.rl.r11,.int .i64 g.rl.r12,.int .i64 g.rl.r13,.int .i64 g.rl.r14,ev] 29)=W1:=hW1
 have HK0:=Lib.hid hk0
 have HGG:Hid (∀ W,Keeps W1 W→W.rangeAt w.heap.size 0 (g.cells (.slice aoC g.chart.length capC) ev)):=Lib.hid (fun W hk=>range_keeps hrg hk)
 have g0:=hrg 0 _ rfl
 have g1:=hrg 1 _ rfl
 have g2:=hrg 2 _ rfl
 have g3:=hrg 3 _ rfl
 have g4:=hrg 4 _ rfl
 simp only [Nat.zero_add] at g0 g1 g2 g3 g4
 clear H hrg hk0 hW1 ho1 hlen
 cases h1:curB g.cur with
 | false=>
  have HBD:=Lib.hid (booksR_1 h1)
  rw [h1] at HU
  clear h1
  go_enter Tryz.func84,Tryz.ntmps84;go_upto_region 1 with fail;(try rw [hW2]);clear hW2
  go_wp2_with (go_at_call 130;(refine (HU.out _).mono ?_);rintro e1 w1 ⟨rfl,rfl⟩)
  go_ret
  rw [HBD.out]
  exact ⟨rfl,HK0.out⟩
 | true=>
 rw [h1] at HU
 cases h2:calB g.y g.m g.n with
 | false=>
  have HBD:=Lib.hid (booksR_2 h2)
  rw [h2] at HCV
  clear h1 h2
  go_enter Tryz.func84,Tryz.ntmps84;go_upto_region 1 with fail;(try rw [hW2]);clear hW2
  go_wp2_with (first | (go_at_call 130;(refine (HU.out _).mono ?_);rintro e1 w1 ⟨rfl,rfl⟩) | (go_at_call 131;(refine (HCV.out _).mono ?_);rintro e2 w2 ⟨rfl,hk2⟩;have K2:=Lib.hid hk2;have z4:=hk2.cell g4;have hz2:=World.block_lt_of_cell? _ _ z4;clear hk2))
  go_ret
  rw [HBD.out]
  exact ⟨rfl,HK0.out.trans K2.out⟩
 | true=>
 rw [h2] at HCV
 cases h3:validRB g.chart true with
 | false=>
  have HBD:=Lib.hid (booksR_3 (accB_1 h3))
  rw [h3] at HV
  clear h1 h2 h3
  go_enter Tryz.func84,Tryz.ntmps84;go_upto_region 1 with fail;(try rw [hW2]);clear hW2
  go_wp2_with (first | (go_at_call 130;(refine (HU.out _).mono ?_);rintro e1 w1 ⟨rfl,rfl⟩) | (go_at_call 131;(refine (HCV.out _).mono ?_);rintro e2 w2 ⟨rfl,hk2⟩;have K2:=Lib.hid hk2;have z4:=hk2.cell g4;have hz2:=World.block_lt_of_cell? _ _ z4;clear hk2) | (go_at_call 132;(refine (HV.out _ (HK0.out.trans K2.out)).mono ?_);rintro e3 w3 ⟨rfl,hk3⟩;have K3:=Lib.hid (K2.out.trans hk3);clear hk3 z4 hz2))
  go_ret
  rw [HBD.out]
  exact ⟨rfl,HK0.out.trans K3.out⟩
 | true=>
 rw [h3] at HV
 obtain ⟨l,hl⟩:∃ l,rolesL g.rl=l:=⟨_,rfl⟩
 have hll:l.length=15:=by rw [← hl];rfl
 have HGD:Hid (g.chart.any (fun a=>!basedB a)=false→(∀ k,k < 15→okRole g.chart l k=true)→booksR g=true):=Lib.hid (fun q1 q2=>by
  unfold booksR
  rw [h1,h2,accB_4 h3 q1 (fun k hk=>by rw [hl] at hk ⊢;exact q2 k (by omega))]
  rfl)
 have HRO:Hid (∀ W,Calls Tryz.prog 134 #[.agg #[.int .i64 g.rl.r0,.int .i64 g.rl.r1,.int .i64 g.rl.r2,.int .i64 g.rl.r3,.int .i64 g.rl.r4,.int .i64 g.rl.r5,.int .i64 g.rl.r6,.int .i64 g.rl.r7,.int .i64 g.rl.r8,.int .i64 g.rl.r9,.int .i64 g.rl.r10,.int .i64 g.rl.r11,.int .i64 g.rl.r12,.int .i64 g.rl.r13,.int .i64 g.rl.r14]] W fun e w'=>∃ B,e=.returned (.slice (some ⟨B,0,none⟩) 15 15)∧Recs w' 5 Rol.cells (some ⟨B,0,none⟩) l 15 B 0∧Keeps W w'):=Lib.hid (fun W=>(rolesR_any g.rl W).mono (by rintro e w' ⟨rfl,hs,hk⟩;exact ⟨_,rfl,by rw [← hl];exact hs,hk⟩))
 have HL:=Lib.hid hl
 have HLL:=Lib.hid hll
 clear h1 h2 h3 hl hll
 go_enter Tryz.func84,Tryz.ntmps84;go_upto_region 1 with fail;(try rw [hW2]);clear hW2
 go_wp2_with (first | (go_at_call 130;(refine (HU.out _).mono ?_);rintro e1 w1 ⟨rfl,rfl⟩) | (go_at_call 131;(refine (HCV.out _).mono ?_);rintro e2 w2 ⟨rfl,hk2⟩;have K2:=Lib.hid hk2;have z4:=hk2.cell g4;have hz2:=World.block_lt_of_cell? _ _ z4;clear hk2) | (go_at_call 132;(refine (HV.out _ (HK0.out.trans K2.out)).mono ?_);rintro e3 w3 ⟨rfl,hk3⟩;have K3:=Lib.hid (K2.out.trans hk3);clear hk3 z4 hz2))
 go_loopw [3] (fun vi wr=>∃ k:Nat,k≤g.chart.length∧vi=.int .i64 k∧Hid (∀ j (hj:j < g.chart.length),j < k→(fun a=>!basedB a) g.chart[j]=false)∧Hid (Keeps W1 wr)) (fun vi _=>g.chart.length - (intOf vi).toNat)
 case atStart=>exact ⟨0,Nat.zero_le _,rfl,Lib.hid (fun j _ hj=>absurd hj (Nat.not_lt_zero _)),K3⟩
 case round=>
  obtain ⟨k,hk,rfl,HN,HW⟩:=hrel
  have g4':=HW.out.cell g4
  have hzg:=World.block_lt_of_cell? _ _ g4'
  by_cases hlt:k < g.chart.length
  ·have hr:=HC.out.keeps (HK0.out.trans HW.out)
   have hix:=Sl.at hr Tryz.underlying24 Tryz.sizeOf68 k hlt
   obtain ⟨a,hak⟩:∃ a,g.chart[k]=a:=⟨_,rfl⟩
   have c0:=hr.cell Acc.len k hlt 0 (.int .i64 a.code) (by rw [hak];rfl)
   have c1:=hr.cell Acc.len k hlt 1 (.int .i64 a.kind) (by rw [hak];rfl)
   have c2:=hr.cell Acc.len k hlt 2 (.int .i64 a.basis) (by rw [hak];rfl)
   have c3:=hr.cell Acc.len k hlt 3 (.int .i64 a.parent) (by rw [hak];rfl)
   rw [Nat.add_zero] at c0
   have HB:Hid (∀ W,Calls Tryz.prog 133 #[.agg #[.int .i64 a.code,.int .i64 a.kind,.int .i64 a.basis,.int .i64 a.parent]] W fun e w'=>e=.returned (.bool (basedB a))∧Keeps W w'):=Lib.hid (fun W=>basedR_any a W)
   have HAK:=Lib.hid hak
   clear hr hak
   cases hb:basedB a with
   | false=>
    have HBD:=Lib.hid (booksR_3 (accB_2 (any_at (q:=fun a=>!basedB a) hlt (by rw [HAK.out,hb];rfl))))
    rw [hb] at HB
    clear hb
    go_wp2_with (go_at_call 133;(refine (HB.out _).mono ?_);rintro e5 w5 ⟨rfl,hk5⟩)
    go_ret
    rw [HBD.out]
    exact ⟨rfl,HK0.out.trans (HW.out.trans hk5)⟩
   | true=>
    have HN2:Hid (∀ j (hj:j < g.chart.length),j < k+1→(fun a=>!basedB a) g.chart[j]=false):=Lib.hid (fun j hj h=>by
     by_cases e:j < k
     ·exact HN.out j hj e
     ·obtain rfl:j=k:=by omega
      rw [HAK.out]
      simp only [hb,Bool.not_true])
    rw [hb] at HB
    clear hb
    go_wp2_with (go_at_call 133;(refine (HB.out _).mono ?_);rintro e5 w5 ⟨rfl,hk5⟩)
    go_roundw
    case rel=>exact ⟨k+1,by omega,by go_num,HN2,Lib.hid (HW.out.trans hk5)⟩
    case measure=>simp [intOf];omega
  ·have HGE:=Lib.hid (HGD.out (any_take_all (fun j hj=>HN.out j hj (by omega))))
   clear HGD
   go_wp2_with (first | (refine wpList_load_mid rfl 26 _ rfl w.heap.size 5 rfl g.rl.vals _ (range_sub (HGG.out _ HW.out) 5 _ (grp_roles g _ _)) Tryz.underlying26 rfl rolesSize ?_) | (go_at_call 134;(refine (HRO.out _).mono ?_);rintro e4 w4 ⟨B,rfl,hs4,hk4⟩;have HS4:=Lib.hid hs4;have K4:=Lib.hid (HW.out.trans hk4);clear hs4 hk4))
   go_loopw [5] (fun vi wr=>∃ k:Nat,k≤15∧vi=.int .i64 k∧Hid (∀ j,j < k→okRole g.chart l j=true)∧Hid (Keeps w4 wr)) (fun vi _=>15 - (intOf vi).toNat)
   case atStart=>exact ⟨0,Nat.zero_le _,rfl,Lib.hid (fun j hj=>absurd hj (Nat.not_lt_zero _)),Lib.hid (Keeps.refl _)⟩
   case round=>
    clear hlt hk HN HW g4' hzg
    obtain ⟨k,hk,rfl,HN,HV4⟩:=hrel
    by_cases hlt15:k < 15
    ·have hlt:k < l.length:=by rw [HLL.out];exact hlt15
     have hsr:=HS4.out.keeps HV4.out
     have hix:=Sl.at hsr Tryz.underlying194 Tryz.sizeOf198 k hlt
     rw [HLL.out] at hix
     obtain ⟨r,hr⟩:∃ r,l[k]=r:=⟨_,rfl⟩
     have c1:=hsr.cell Rol.len k hlt 1 (.int .i64 r.code) (by rw [hr];rfl)
     have c2:=hsr.cell Rol.len k hlt 2 (.int .i64 r.kind) (by rw [hr];rfl)
     have c3:=hsr.cell Rol.len k hlt 3 (.int .i64 r.basis) (by rw [hr];rfl)
     simp only [Nat.add_zero,Nat.zero_add] at c1 c2 c3 hix
     have HCC:Hid (∀ W,Keeps wr W→W.cell? ⟨B,k * 5+1,none⟩=some (.int .i64 r.code)∧W.cell? ⟨B,k * 5+2,none⟩=some (.int .i64 r.kind)∧W.cell? ⟨B,k * 5+3,none⟩=some (.int .i64 r.basis)):=Lib.hid (fun W hW=>⟨hW.cell c1,hW.cell c2,hW.cell c3⟩)
     obtain ⟨a,ha⟩:∃ a,(findA g.chart r.code).getD Acc.zero=a:=⟨_,rfl⟩
     obtain ⟨p,hp⟩:∃ p,(findA g.chart r.code).isSome=p:=⟨_,rfl⟩
     have HF:Hid (∀ W,Keeps wr W→Calls Tryz.prog 135 #[.agg #[.string g.cur,.int .i64 g.y,.int .i64 g.m,.int .i64 g.n,.slice aoC g.chart.length capC,.int .i64 g.rl.r0,.int .i64 g.rl.r1,.int .i64 g.rl.r2,.int .i64 g.rl.r3,.int .i64 g.rl.r4,.int .i64 g.rl.r5,.int .i64 g.rl.r6,.int .i64 g.rl.r7,.int .i64 g.rl.r8,.int .i64 g.rl.r9,.int .i64 g.rl.r10,.int .i64 g.rl.r11,.int .i64 g.rl.r12,.int .i64 g.rl.r13,.int .i64 g.rl.r14,ev],.int .i64 r.code] W fun e w'=>e=.returned (.tuple #[.agg #[.int .i64 a.code,.int .i64 a.kind,.int .i64 a.basis,.int .i64 a.parent],.bool p])∧Keeps W w'):=Lib.hid (fun W h=>by
      have:=racct_any g ev r.code aoC capC bC oC W (HC.out.keeps (HK0.out.trans (K4.out.trans (HV4.out.trans h))))
      unfold AccO at this
      rw [ha,hp] at this
      exact this)
     have HR:=Lib.hid hr
     have HA1:=Lib.hid ha
     have HP1:=Lib.hid hp
     clear hr ha hp hsr c1 c2 c3
     go_upto_region 12 with fail
     refine wp_region_steps2 (A:=?_) (RV wr.heap.size 4 a.cells) [some 49,some 50,some 51,some 52,some 53,some 54,some 55,some 48,some 56,some 57,some 6,none,some 7] [[],[],[],[1,2],[3],[4],[0,5],[6],[7],[7],[],[8,10],[9]] 13 (by kernel_rfl) (by kernel_rfl) (by kernel_rfl) (by kernel_rfl) (by kernel_rfl) (by kernel_rfl) RV.refl (fun _ _ _=>RV.trans) ?_ ?_
     rotate_left
     ·intro f;simp only [putL,Act.put,List.setIfInBounds_toArray,List.set_cons_zero,List.set_cons_succ,Nat.zero_add,Nat.reduceAdd];exact rfl
     refine Steps2.pure (v:=g.cells (.slice aoC g.chart.length capC) ev |> List.toArray |> .agg) RV.refl rfl (fun f w' hR hV=>⟨?_,?_⟩) ?_
     ·(rfl)
     ·(clear hV;have hkw:=hR.keep wr (Nat.le_refl _) (Keeps.refl wr).drew;obtain ⟨c1,c2,c3⟩:=HCC.out _ hkw;exact exec_load_mid 29 (.tmp 1) rfl w.heap.size rfl (g.cells (.slice aoC g.chart.length capC) ev) _ (HGG.out _ (K4.out.trans (HV4.out.trans hkw))) Tryz.underlying29 rfl groupSize)
     iterate 5 (refine Steps2.pure (v:=?_) RV.refl rfl (fun f w' hR hV=>⟨?_,?_⟩) ?_;rotate_left;(focus rfl);(focus ((repeat (obtain ⟨hq,hV⟩:=hV;(try replace hq:_=_:=hq)));have hkw:=hR.keep wr (Nat.le_refl _) (Keeps.refl wr).drew;obtain ⟨c1,c2,c3⟩:=HCC.out _ hkw;go_simp;all_goals (try with_reducible rfl))))
     refine Steps2.call (fun f _=>f 6=.tuple #[.agg #[.int .i64 a.code,.int .i64 a.kind,.int .i64 a.basis,.int .i64 a.parent],.bool p]) rfl (fun _ _ _ _ h=>h) (fun _ _ _ h _ hf=>by rw [h] at hf;exact hf) (fun f w' hR hV=>⟨?_,?_⟩) ?_
     ·(rfl)
     ·(obtain ⟨h0,h5,_⟩:=hV;replace h0:f 0=_:=h0;replace h5:f 5=_:=h5;have hkw:=hR.keep wr (Nat.le_refl _) (Keeps.refl wr).drew;obtain ⟨c1,c2,c3⟩:=HCC.out _ hkw;go_simp;go_at_call 135;refine (HF.out _ hkw).mono ?_;rintro e w2 ⟨rfl,hk2⟩;exact StepPost2.of _ rfl (by simp [upd2]) (RV.keeps hk2))
     iterate 3 (refine Steps2.pure (v:=?_) RV.refl rfl (fun f w' hR hV=>⟨?_,?_⟩) ?_;rotate_left;(focus rfl);(focus ((repeat (obtain ⟨hq,hV⟩:=hV;(try replace hq:_=_:=hq)));have hkw:=hR.keep wr (Nat.le_refl _) (Keeps.refl wr).drew;obtain ⟨c1,c2,c3⟩:=HCC.out _ hkw;go_simp;all_goals (try with_reducible rfl))))
     refine Steps2.call (fun f W=>∃ bb,f 10=.pointer (some ⟨bb,0,none⟩)∧wr.heap.size≤bb∧W.there bb 0 4) rfl (fun _ _ _ k ⟨bb,h1,h2,h3⟩=>⟨bb,h1,h2,k.th bb h3⟩) (fun f f' w h _ ⟨bb,h1,h2,h3⟩=>⟨bb,h.symm.trans h1,h2,h3⟩) (fun f w' hR hV=>⟨?_,?_⟩) ?_
     ·(rfl)
     ·(clear hV;have hkw:=hR.keep wr (Nat.le_refl _) (Keeps.refl wr).drew;obtain ⟨c1,c2,c3⟩:=HCC.out _ hkw;go_simp;exact StepPost2.of _ rfl ⟨_,by simp [upd2],hR.size,there_newP _ _ [_,_,_,_]⟩ (RV.keeps ((Keeps.refl _).alloc _)))
     refine Steps2.call (fun f W=>∃ bb,f 10=.pointer (some ⟨bb,0,none⟩)∧W.rangeAt bb 0 a.cells) rfl (fun _ _ _ k ⟨bb,h1,h2⟩=>⟨bb,h1,k.rg bb h2⟩) (fun f f' w _ hd ⟨bb,h1,h2⟩=>⟨bb,(hd 10 (by decide)).symm.trans h1,h2⟩) (fun f w' hR hV=>⟨?_,?_⟩) ?_
     ·(rfl)
     ·(obtain ⟨h8,h10,_⟩:=hV;replace h8:f 8=_:=h8;replace h10:∃ bb,f 10=.pointer (some ⟨bb,0,none⟩)∧wr.heap.size≤bb∧World.there w' bb 0 4:=h10;have hkw:=hR.keep wr (Nat.le_refl _) (Keeps.refl wr).drew;obtain ⟨c1,c2,c3⟩:=HCC.out _ hkw;obtain ⟨bb,e10,hb,hth⟩:=h10;exact wp_store_mid 68 (.tmp 6) (.tmp 56) rfl bb 0 a.cells.toArray e10 h8 hth accSize (all_oneCell_toArray (Acc.one a)) (StepPost2.of _ rfl ⟨bb,by simpa [upd2] using e10,World.rangeAt_setCells_same _ _ _ _ hth⟩ (RV.set hb hth)))
     (refine Steps2.pure (v:=?_) RV.refl rfl (fun f w' hR hV=>⟨?_,?_⟩) ?_;rotate_left;(focus rfl);(focus ((repeat (obtain ⟨hq,hV⟩:=hV;(try replace hq:_=_:=hq)));have hkw:=hR.keep wr (Nat.le_refl _) (Keeps.refl wr).drew;obtain ⟨c1,c2,c3⟩:=HCC.out _ hkw;go_simp;all_goals (try with_reducible rfl))))
     all_goals (refine Steps2.done [11,12] (by kernel_rfl) rfl (fun f wz hR hV=>?_);obtain ⟨h11,h12,_⟩:=hV;replace h11:∃ bb,f 10=.pointer (some ⟨bb,0,none⟩)∧wz.rangeAt bb 0 a.cells:=h11;replace h12:f 12=_:=h12;simp only [h12])
     obtain ⟨bb,e10,hrc⟩:=h11
     simp only [e10]
     have hkz:=hR.keep wr (Nat.le_refl _) (Keeps.refl wr).drew
     have y1:=hrc 1 _ rfl
     have y2:=hrc 2 _ rfl
     simp only [Nat.zero_add] at y1 y2
     obtain ⟨c1,c2,c3⟩:=HCC.out _ hkz
     have HWZ:=Lib.hid (K4.out.trans (HV4.out.trans hkz))
     have HVZ:=Lib.hid (HV4.out.trans hkz)
     have HX:Hid (∀ W,Keeps wz.drew W→W.cell? ⟨bb,1,none⟩=some (.int .i64 a.kind)∧W.cell? ⟨bb,2,none⟩=some (.int .i64 a.basis)∧W.cell? ⟨B,k * 5+1,none⟩=some (.int .i64 r.code)∧W.cell? ⟨B,k * 5+2,none⟩=some (.int .i64 r.kind)∧W.cell? ⟨B,k * 5+3,none⟩=some (.int .i64 r.basis)):=Lib.hid (fun W hW=>⟨hW.cell y1,hW.cell y2,hW.cell c1,hW.cell c2,hW.cell c3⟩)
     clear hR hkz hrc e10 y1 y2 c1 c2 c3 h12
     cases p with
     | false=>
      have HBD:=Lib.hid (booksR_3 (accB_3 (g:=g) (k:=k) (by rw [HL.out];exact hlt) (by rw [HL.out,okRole_at hlt,HR.out,HA1.out,HP1.out];simp [true])))
      go_upto_region 13 with fail
      refine wp_region_steps (A:=?_) Keeps [some 58,some 59,some 60,some 61,some 62,some 63,some 64,some 65,some 66,some 67,some 68,some 69,some 70,some 71,some 72,some 73,some 74,some 75,some 76,some 77,some 78,some 79] [[],[0],[1],[2],[2,3],[2],[2],[2,5,6],[2,7],[2,8],[2,4,9],[2,10],[11],[12],[12,13],[12],[12],[12,15,16],[12,17],[12,18],[12,14,19],[12,20]] 22 (by kernel_rfl) (by kernel_rfl) (by kernel_rfl) (by kernel_rfl) (by kernel_rfl) (by kernel_rfl) Keeps.refl (fun _ _ _=>Keeps.trans) ?_ ?_
      rotate_left
      ·intro f;simp only [putL,Act.put,List.setIfInBounds_toArray,List.set_cons_zero,List.set_cons_succ,Nat.zero_add,Nat.reduceAdd];exact rfl
      iterate 22 (all_goals first
       | (refine Steps.pure (v:=?_) Keeps.refl rfl (fun f w' hR hV=>⟨?_,?_⟩) ?_;rotate_left;(focus ((repeat (obtain ⟨hq,hV⟩:=hV;(try replace hq:_=_:=hq)));first | exact want_yes rfl rfl rfl (by assumption) | rfl));(focus ((repeat (obtain ⟨hq,hV⟩:=hV;(try replace hq:_=_:=hq)));obtain ⟨x1,x2,c1,c2,c3⟩:=HX.out _ hR;go_simp;all_goals (try with_reducible rfl))))
       | (refine Steps.skip rfl (fun f w' hR hV=>?_) ?_;(focus ((repeat (obtain ⟨hq,hV⟩:=hV;(try replace hq:_=_:=hq)));first | exact want_no rfl rfl rfl (by assumption) rfl | exact want_undef rfl rfl rfl (by assumption)))))
      all_goals (refine Steps.done [21] (by kernel_rfl) rfl (fun f wq hR hV=>?_);obtain ⟨h21,_⟩:=hV;replace h21:f 21=_:=h21;simp only [h21])
      go_wp2_with fail
      go_ret
      rw [HBD.out]
      exact ⟨rfl,HK0.out.trans (HWZ.out.trans ((Keeps.refl wz).drew.trans hR))⟩
     | true=>
     by_cases hk1:a.kind=r.kind
     ·have e1:(a.kind != r.kind)=false:=by simp [bne,hk1]
      by_cases hk2:a.basis=r.basis
      ·have e2:(a.basis != r.basis)=false:=by simp [bne,hk2]
       have HOK:Hid ((l.take k).any (fun q=>q.code == r.code)=false→okRole g.chart l k=true):=Lib.hid (fun hq=>by rw [okRole_at hlt,HR.out,HA1.out,HP1.out,hq];simp [hk1,hk2])
       have HNO:Hid ((l.take k).any (fun q=>q.code == r.code)=true→booksR g=false):=Lib.hid (fun hq=>booksR_3 (accB_3 (g:=g) (k:=k) (by rw [HL.out];exact hlt) (by rw [HL.out,okRole_at hlt,HR.out,hq];simp)))
       clear hk1 hk2
       go_upto_region 13 with fail
       refine wp_region_steps (A:=?_) Keeps [some 58,some 59,some 60,some 61,some 62,some 63,some 64,some 65,some 66,some 67,some 68,some 69,some 70,some 71,some 72,some 73,some 74,some 75,some 76,some 77,some 78,some 79] [[],[0],[1],[2],[2,3],[2],[2],[2,5,6],[2,7],[2,8],[2,4,9],[2,10],[11],[12],[12,13],[12],[12],[12,15,16],[12,17],[12,18],[12,14,19],[12,20]] 22 (by kernel_rfl) (by kernel_rfl) (by kernel_rfl) (by kernel_rfl) (by kernel_rfl) (by kernel_rfl) Keeps.refl (fun _ _ _=>Keeps.trans) ?_ ?_
       rotate_left
       ·intro f;simp only [putL,Act.put,List.setIfInBounds_toArray,List.set_cons_zero,List.set_cons_succ,Nat.zero_add,Nat.reduceAdd];exact rfl
       iterate 22 (all_goals first
        | (refine Steps.pure (v:=?_) Keeps.refl rfl (fun f w' hR hV=>⟨?_,?_⟩) ?_;rotate_left;(focus ((repeat (obtain ⟨hq,hV⟩:=hV;(try replace hq:_=_:=hq)));first | exact want_yes rfl rfl rfl (by assumption) | rfl));(focus ((repeat (obtain ⟨hq,hV⟩:=hV;(try replace hq:_=_:=hq)));obtain ⟨x1,x2,c1,c2,c3⟩:=HX.out _ hR;go_simp;all_goals (try with_reducible rfl))))
        | (refine Steps.skip rfl (fun f w' hR hV=>?_) ?_;(focus ((repeat (obtain ⟨hq,hV⟩:=hV;(try replace hq:_=_:=hq)));first | exact want_no rfl rfl rfl (by assumption) rfl | exact want_undef rfl rfl rfl (by assumption)))))
       all_goals (refine Steps.done [21] (by kernel_rfl) rfl (fun f wq hR hV=>?_);obtain ⟨h21,_⟩:=hV;replace h21:f 21=_:=h21;simp only [h21])
       have HVQ:=Lib.hid (HVZ.out.trans ((Keeps.refl wz).drew.trans hR))
       clear hR HX
       go_wp2_with fail
       go_loopw [8] (fun vj w8=>∃ j:Nat,j≤k∧vj=.int .i64 j∧Hid (∀ i (hi:i < l.length),i < j→l[i].code≠r.code)∧Hid (Keeps w4 w8)) (fun vj _=>k - (intOf vj).toNat)
       case atStart=>exact ⟨0,Nat.zero_le _,rfl,Lib.hid (fun i _ h=>absurd h (Nat.not_lt_zero _)),HVQ⟩
       case round=>
        obtain ⟨j,hj,rfl,HN8,HW8⟩:=hrel
        by_cases hjk:j < k
        ·have hjl:j < l.length:=by omega
         have hsr:=HS4.out.keeps HW8.out
         have hix2:=Sl.at hsr Tryz.underlying194 Tryz.sizeOf198 j hjl
         rw [HLL.out] at hix2
         obtain ⟨q,hq⟩:∃ q,l[j]=q:=⟨_,rfl⟩
         have d1:=hsr.cell Rol.len j hjl 1 (.int .i64 q.code) (by rw [hq];rfl)
         have d2:=hsr.cell Rol.len k hlt 1 (.int .i64 r.code) (by rw [HR.out];rfl)
         simp only [Nat.add_zero,Nat.zero_add] at d1 d2 hix2
         have HQ:=Lib.hid hq
         clear hsr hq
         by_cases he:q.code=r.code
         ·have HBD:=Lib.hid (HNO.out (List.any_eq_true.2 ⟨q,List.mem_take_iff_getElem.2 ⟨j,by omega,HQ.out⟩,by simpa using he⟩))
          have e3:(q.code == r.code)=true:=by simpa using he
          clear he
          go_upto_region 18 with fail
          go_quiet (fail)
          go_wp2_with fail
          go_ret
          rw [HBD.out]
          exact ⟨rfl,HK0.out.trans (K4.out.trans (HW8.out.drewN _))⟩
         ·have e3:(q.code == r.code)=false:=by simpa using he
          have HN9:Hid (∀ i (hi:i < l.length),i < j+1→l[i].code≠r.code):=Lib.hid (fun i hi hij=>by
           by_cases e:i < j
           ·exact HN8.out i hi e
           ·obtain rfl:i=j:=by omega
            rw [HQ.out];exact he)
          clear he
          go_upto_region 18 with fail
          go_quiet (fail)
          go_wp2_with fail
          go_roundw
          case rel=>exact ⟨j+1,by omega,by go_num,HN9,Lib.hid (HW8.out.drewN _)⟩
          case measure=>simp [intOf];omega
        ·have HOE:=Lib.hid (HOK.out (by
          rw [List.any_eq_false]
          intro q hq
          obtain ⟨i,hi,rfl⟩:=List.mem_take_iff_getElem.1 hq
          have:=HN8.out i (by omega) (by omega)
          simpa using this))
         go_wp2_with fail
         go_roundw
         case rel=>exact ⟨k+1,by omega,by go_num,Lib.hid (fun j hj=>by by_cases h:j < k;(exact HN.out j h);(rw [show j=k from by omega];exact HOE.out)),HW8⟩
         case measure=>simp [intOf];omega
      ·have e2:(a.basis != r.basis)=true:=by simpa [bne] using hk2
       have HBD:=Lib.hid (booksR_3 (accB_3 (g:=g) (k:=k) (by rw [HL.out];exact hlt) (by rw [HL.out,okRole_at hlt,HR.out,HA1.out,HP1.out];simp [hk2])))
       clear hk1 hk2
       go_upto_region 13 with fail
       refine wp_region_steps (A:=?_) Keeps [some 58,some 59,some 60,some 61,some 62,some 63,some 64,some 65,some 66,some 67,some 68,some 69,some 70,some 71,some 72,some 73,some 74,some 75,some 76,some 77,some 78,some 79] [[],[0],[1],[2],[2,3],[2],[2],[2,5,6],[2,7],[2,8],[2,4,9],[2,10],[11],[12],[12,13],[12],[12],[12,15,16],[12,17],[12,18],[12,14,19],[12,20]] 22 (by kernel_rfl) (by kernel_rfl) (by kernel_rfl) (by kernel_rfl) (by kernel_rfl) (by kernel_rfl) Keeps.refl (fun _ _ _=>Keeps.trans) ?_ ?_
       rotate_left
       ·intro f;simp only [putL,Act.put,List.setIfInBounds_toArray,List.set_cons_zero,List.set_cons_succ,Nat.zero_add,Nat.reduceAdd];exact rfl
       iterate 22 (all_goals first
        | (refine Steps.pure (v:=?_) Keeps.refl rfl (fun f w' hR hV=>⟨?_,?_⟩) ?_;rotate_left;(focus ((repeat (obtain ⟨hq,hV⟩:=hV;(try replace hq:_=_:=hq)));first | exact want_yes rfl rfl rfl (by assumption) | rfl));(focus ((repeat (obtain ⟨hq,hV⟩:=hV;(try replace hq:_=_:=hq)));obtain ⟨x1,x2,c1,c2,c3⟩:=HX.out _ hR;go_simp;all_goals (try with_reducible rfl))))
        | (refine Steps.skip rfl (fun f w' hR hV=>?_) ?_;(focus ((repeat (obtain ⟨hq,hV⟩:=hV;(try replace hq:_=_:=hq)));first | exact want_no rfl rfl rfl (by assumption) rfl | exact want_undef rfl rfl rfl (by assumption)))))
       all_goals (refine Steps.done [21] (by kernel_rfl) rfl (fun f wq hR hV=>?_);obtain ⟨h21,_⟩:=hV;replace h21:f 21=_:=h21;simp only [h21])
       go_wp2_with fail
       go_ret
       rw [HBD.out]
       exact ⟨rfl,HK0.out.trans (HWZ.out.trans ((Keeps.refl wz).drew.trans hR))⟩
     ·have e1:(a.kind != r.kind)=true:=by simpa [bne] using hk1
      have HBD:=Lib.hid (booksR_3 (accB_3 (g:=g) (k:=k) (by rw [HL.out];exact hlt) (by rw [HL.out,okRole_at hlt,HR.out,HA1.out,HP1.out];simp [hk1])))
      clear hk1
      go_upto_region 13 with fail
      refine wp_region_steps (A:=?_) Keeps [some 58,some 59,some 60,some 61,some 62,some 63,some 64,some 65,some 66,some 67,some 68,some 69,some 70,some 71,some 72,some 73,some 74,some 75,some 76,some 77,some 78,some 79] [[],[0],[1],[2],[2,3],[2],[2],[2,5,6],[2,7],[2,8],[2,4,9],[2,10],[11],[12],[12,13],[12],[12],[12,15,16],[12,17],[12,18],[12,14,19],[12,20]] 22 (by kernel_rfl) (by kernel_rfl) (by kernel_rfl) (by kernel_rfl) (by kernel_rfl) (by kernel_rfl) Keeps.refl (fun _ _ _=>Keeps.trans) ?_ ?_
      rotate_left
      ·intro f;simp only [putL,Act.put,List.setIfInBounds_toArray,List.set_cons_zero,List.set_cons_succ,Nat.zero_add,Nat.reduceAdd];exact rfl
      iterate 22 (all_goals first
       | (refine Steps.pure (v:=?_) Keeps.refl rfl (fun f w' hR hV=>⟨?_,?_⟩) ?_;rotate_left;(focus ((repeat (obtain ⟨hq,hV⟩:=hV;(try replace hq:_=_:=hq)));first | exact want_yes rfl rfl rfl (by assumption) | rfl));(focus ((repeat (obtain ⟨hq,hV⟩:=hV;(try replace hq:_=_:=hq)));obtain ⟨x1,x2,c1,c2,c3⟩:=HX.out _ hR;go_simp;all_goals (try with_reducible rfl))))
       | (refine Steps.skip rfl (fun f w' hR hV=>?_) ?_;(focus ((repeat (obtain ⟨hq,hV⟩:=hV;(try replace hq:_=_:=hq)));first | exact want_no rfl rfl rfl (by assumption) rfl | exact want_undef rfl rfl rfl (by assumption)))))
      all_goals (refine Steps.done [21] (by kernel_rfl) rfl (fun f wq hR hV=>?_);obtain ⟨h21,_⟩:=hV;replace h21:f 21=_:=h21;simp only [h21])
      go_wp2_with fail
      go_ret
      rw [HBD.out]
      exact ⟨rfl,HK0.out.trans (HWZ.out.trans ((Keeps.refl wz).drew.trans hR))⟩
    ·have HGF:=Lib.hid (HGE.out (fun j hj=>HN.out j (by omega)))
     go_wp2_with fail
     go_ret
     rw [HGF.out]
     exact ⟨rfl,HK0.out.trans (K4.out.trans HV4.out)⟩
end Go.Proofs.YtoaidbhiciaeaaaGreat

end
