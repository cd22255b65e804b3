/- Walks and plain facts that the claim rests on (SdR). No condition. -/
import Derived.Test.YtoaidbhiciaeaaaGreatPo34
import Derived.Test.YtoaidbhiciaeaaaGreatPo29
import Derived.Test.YtoaidbhiciaeaaaGreatPo45
import Derived.Deep.QuietTactic
import Derived.BigQuiet
set_option linter.unusedSimpArgs false
set_option linter.unusedVariables false
set_option maxHeartbeats 16000000
section
namespace Go.Proofs.YtoaidbhiciaeaaaGreat
open Go.RowKit
def EnC (a:Int) (cs:List Value):Prop:=cs.length=7∧(∀ v∈cs,v.oneCell'=true)∧cs[1]?=some (.int .i64 a)
def LnC (a:Int) (cs:List Value):Prop:=cs.length=3∧(∀ v∈cs,v.oneCell'=true)∧cs[2]?=some (.int .i64 a)
theorem enSz7:(Tryz.prog.info? 56).map (·.size)=some 7:=by kernel_rfl
theorem lnSz3:(Tryz.prog.info? 103).map (·.size)=some 3:=by kernel_rfl
theorem EpOut.rows {w w':World} {q:Option (Int × Int)} {e:Ending} (h:EpOut w q e w'):∃ C D,e=.returned (.tuple #[.agg C.toArray,.agg D.toArray,.bool q.isSome])∧EnC (q.getD (0,0)).1 C∧LnC (q.getD (0,0)).2 D∧Keeps w w':=by
 obtain ⟨c0,c2,c3,c4,s,ao,n,cap,l0,l1,rfl,hk⟩:=h
 refine ⟨[.int .i64 c0,.int .i64 (q.getD (0,0)).1,.int .i64 c2,.int .i64 c3,.int .i64 c4,.string s,.slice ao n cap],[.int .i64 l0,.int .i64 l1,.int .i64 (q.getD (0,0)).2],rfl,⟨rfl,?_,rfl⟩,⟨rfl,?_,rfl⟩,hk⟩
 ·intro v hv
  simp only [List.mem_cons,List.not_mem_nil,or_false] at hv
  rcases hv with rfl | rfl | rfl | rfl | rfl | rfl | rfl <;> rfl
 ·intro v hv
  simp only [List.mem_cons,List.not_mem_nil,or_false] at hv
  rcases hv with rfl | rfl | rfl <;> rfl
theorem flat_takeR {α:Type} {enc:α→List Value} {sz:Nat} (he:∀ a,(enc a).length=sz) (l:List α) (k:Nat):(l.take k).flatMap enc=(l.flatMap enc).take (k * sz):=by
 induction l generalizing k with
 | nil=>simp
 | cons x l ih=>
  cases k with
  | zero=>simp
  | succ k=>rw [List.take_succ_cons,List.flatMap_cons,List.flatMap_cons,ih,List.take_append,he,List.take_of_length_le (l:=enc x) (by rw [he,Nat.add_mul];omega),show (k+1) * sz - sz=k * sz from by rw [Nat.add_mul];omega]
set_option maxRecDepth 100000 in
theorem sdR_any (bv:List Value) (es:List JV) (ms:List MV) (L:List Rf) (ao:Option Addr) (cap b o:Nat) (w:World) (H:Bks w bv es ms) (hm:∀ e∈es,e.x.lines.length≤8) (HL:Recs w 2 Rf.cells ao L cap b o) :
  Calls Tryz.prog 55 #[.agg bv.toArray,.slice ao L.length cap] w fun e w'=>e=.returned (.tuple #[.int .i64 (sideR es L).1,.int .i64 (sideR es L).2.1,.bool (sideR es L).2.2])∧Keeps w w':=by
 have hcap:=Sl.cap HL
 have hle:=Sl.le HL
 have HBL:=Lib.hid H.len
 have HF:Hid (∀ (r:Rf) W,Keeps w W→Calls Tryz.prog 92 #[.agg bv.toArray,.agg #[.int .i64 r.e,.int .i64 r.l]] W (EpOut W (ep es r))):=Lib.hid (fun r W hk=>epR_any bv es ms r W (H.keeps hk) hm)
 have HHL:=Lib.hid HL
 have hrg:=box_range w bv 36
 have hk0:Keeps w (w.alloc (.cells bv.toArray 36)):=(Keeps.refl w).alloc _
 obtain ⟨W1,hW1⟩:∃ W1,w.alloc (.cells bv.toArray 36)=W1:=⟨_,rfl⟩
 rw [hW1] at hrg hk0
 have HW1:=Lib.hid hk0
 have HRG:Hid (∀ W,Keeps W1 W→W.rangeAt w.heap.size 0 bv):=Lib.hid (fun W hk=>range_keeps hrg hk)
 clear H HL hrg hk0 hm
 go_enter Tryz.func55,Tryz.ntmps55
 go_wp2_with fail
 try rw [hW1]
 clear hW1
 go_loopw [7,8,9] (fun vf vp vi wr=>∃ (k:Nat) (fe fp:Int),k≤L.length∧vi=.int .i64 k∧vf=.int .i64 fe∧vp=.int .i64 fp∧Hid (∀ j (hj:j < L.length),j < k→ep es L[j]=some (fe,fp))∧Hid (k=0→(fe,fp)=(0,0))∧Hid (∀ j (hj:j < L.length),j < k→L[j]∉L.take j)∧Hid (Keeps W1 wr)) (fun _ _ vi _=>L.length - (intOf vi).toNat)
 case atStart=>exact ⟨0,0,0,Nat.zero_le _,rfl,rfl,rfl,Lib.hid (fun j _ h=>absurd h (Nat.not_lt_zero _)),Lib.hid (fun _=>rfl),Lib.hid (fun j _ h=>absurd h (Nat.not_lt_zero _)),Lib.hid (Keeps.refl _)⟩
 case round=>
  obtain ⟨k,fe,fp,hk,rfl,rfl,rfl,HA,HZ,HN,HW⟩:=hrel
  by_cases hlt:k < L.length
  ·have hr:=HHL.out.keeps (HW1.out.trans HW.out)
   have hix:=Sl.at hr Tryz.underlying46 Tryz.sizeOf51 k hlt
   obtain ⟨r,hrk⟩:∃ r,L[k]=r:=⟨_,rfl⟩
   have c0:=hr.cell Rf.len k hlt 0 (.int .i64 r.e) (by rw [hrk];rfl)
   have c1:=hr.cell Rf.len k hlt 1 (.int .i64 r.l) (by rw [hrk];rfl)
   rw [Nat.add_zero] at c0
   have HRK:=Lib.hid hrk
   have HF:=Lib.hid (HF.out r)
   have HCC:Hid (∀ W,Keeps wr W→W.cell? ⟨b,o+k * 2,none⟩=some (.int .i64 r.e)∧W.cell? ⟨b,o+k * 2+1,none⟩=some (.int .i64 r.l)):=Lib.hid (fun W hW=>⟨hW.cell c0,hW.cell c1⟩)
   obtain ⟨qs,hqs⟩:∃ qs,(ep es r).isSome=qs:=⟨_,rfl⟩
   obtain ⟨qe,hqe⟩:∃ qe,((ep es r).getD (0,0)).1=qe:=⟨_,rfl⟩
   obtain ⟨qp,hqp⟩:∃ qp,((ep es r).getD (0,0)).2=qp:=⟨_,rfl⟩
   have HQS:=Lib.hid hqs
   have HQE:=Lib.hid hqe
   have HQP:=Lib.hid hqp
   clear hr hrk hqs hqe hqp c0 c1
   go_upto_region 5 with fail
   refine wp_region_steps2 (A:=?_) (RT wr.heap.size 56 103 (EnC qe) (LnC qp) 7 3) [some 20,some 21,some 22,some 23,some 24,some 25,some 19,some 26,some 27,some 28,some 10,some 11,none,none,some 12] [[],[],[],[1,2],[3],[0,4],[5],[6],[6],[6],[],[],[7,10],[8,11],[9]] 15 (by kernel_rfl) (by kernel_rfl) (by kernel_rfl) (by kernel_rfl) (by kernel_rfl) (by kernel_rfl) RT.refl (fun _ _ _=>RT.trans) ?_ ?_
   rotate_left
   ·intro f;simp only [putL,Act.put,List.setIfInBounds_toArray,List.set_cons_zero,List.set_cons_succ,Nat.zero_add,Nat.reduceAdd];exact rfl
   refine Steps2.pure (v:=.agg bv.toArray) RT.refl rfl (fun f w' hR hV=>⟨?_,?_⟩) ?_
   ·(rfl)
   ·(clear hV;have hkw:=hR.keep wr (Nat.le_refl _) (Keeps.refl wr).drew;obtain ⟨c0,c1⟩:=HCC.out _ hkw;exact exec_load_mid 36 (.tmp 2) rfl w.heap.size rfl bv _ (HRG.out _ (HW.out.trans hkw)) Tryz.underlying36 rfl (by rw [HBL.out];exact booksSize))
   iterate 4 (refine Steps2.pure (v:=?_) RT.refl rfl (fun f w' hR hV=>⟨?_,?_⟩) ?_;rotate_left;(focus rfl);(focus ((repeat (obtain ⟨hq,hV⟩:=hV;(try replace hq:_=_:=hq)));have hkw:=hR.keep wr (Nat.le_refl _) (Keeps.refl wr).drew;obtain ⟨c0,c1⟩:=HCC.out _ hkw;go_simp;all_goals (try with_reducible rfl))))
   refine Steps2.call (fun f _=>∃ C D:List Value,f 5=.tuple #[.agg C.toArray,.agg D.toArray,.bool qs]∧EnC qe C∧LnC qp D) rfl (fun _ _ _ _ h=>h) (fun _ _ _ h _ hf=>by rw [h] at hf;exact hf) (fun f w' hR hV=>⟨?_,?_⟩) ?_
   ·(rfl)
   ·(obtain ⟨h0,h4,_⟩:=hV;replace h0:f 0=_:=h0;replace h4:f 4=_:=h4;have hkw:=hR.keep wr (Nat.le_refl _) (Keeps.refl wr).drew;obtain ⟨c0,c1⟩:=HCC.out _ hkw;go_simp;go_at_call 92;refine (HF.out _ (HW1.out.trans (HW.out.trans hkw))).mono ?_;rintro e w2 hrow;obtain ⟨C,D,rfl,hC,hD,hk2⟩:=hrow.rows;exact StepPost2.of _ rfl ⟨C,D,by simp [upd2,HQS.out],by rw [← HQE.out];exact hC,by rw [← HQP.out];exact hD⟩ (RT.keeps hk2))
   refine Steps2.call (fun f _=>∃ C D:List Value,f 6=.tuple #[.agg C.toArray,.agg D.toArray,.bool qs]∧EnC qe C∧LnC qp D) rfl (fun _ _ _ _ h=>h) (fun _ _ _ h _ hf=>by rw [h] at hf;exact hf) (fun f w' hR hV=>⟨?_,?_⟩) ?_
   ·(rfl)
   ·(obtain ⟨h5,_⟩:=hV;replace h5:∃ C D:List Value,f 5=.tuple #[.agg C.toArray,.agg D.toArray,.bool qs]∧EnC qe C∧LnC qp D:=h5;have hkw:=hR.keep wr (Nat.le_refl _) (Keeps.refl wr).drew;obtain ⟨c0,c1⟩:=HCC.out _ hkw;go_simp;obtain ⟨C,D,e5,hC,hD⟩:=h5;go_simp;exact StepPost2.of _ rfl ⟨C,D,by simp [upd2],hC,hD⟩ (RT.refl _))
   refine Steps2.call (fun f _=>∃ C:List Value,f 7=.agg C.toArray∧EnC qe C) rfl (fun _ _ _ _ h=>h) (fun _ _ _ h _ hf=>by rw [h] at hf;exact hf) (fun f w' hR hV=>⟨?_,?_⟩) ?_
   ·(rfl)
   ·(obtain ⟨h6,_⟩:=hV;replace h6:∃ C D:List Value,f 6=.tuple #[.agg C.toArray,.agg D.toArray,.bool qs]∧EnC qe C∧LnC qp D:=h6;have hkw:=hR.keep wr (Nat.le_refl _) (Keeps.refl wr).drew;obtain ⟨c0,c1⟩:=HCC.out _ hkw;go_simp;obtain ⟨C,D,e6,hC,hD⟩:=h6;go_simp;exact StepPost2.of _ rfl ⟨C,by simp [upd2],hC⟩ (RT.refl _))
   refine Steps2.call (fun f _=>∃ D:List Value,f 8=.agg D.toArray∧LnC qp D) rfl (fun _ _ _ _ h=>h) (fun _ _ _ h _ hf=>by rw [h] at hf;exact hf) (fun f w' hR hV=>⟨?_,?_⟩) ?_
   ·(rfl)
   ·(obtain ⟨h6,_⟩:=hV;replace h6:∃ C D:List Value,f 6=.tuple #[.agg C.toArray,.agg D.toArray,.bool qs]∧EnC qe C∧LnC qp D:=h6;have hkw:=hR.keep wr (Nat.le_refl _) (Keeps.refl wr).drew;obtain ⟨c0,c1⟩:=HCC.out _ hkw;go_simp;obtain ⟨C,D,e6,hC,hD⟩:=h6;go_simp;exact StepPost2.of _ rfl ⟨D,by simp [upd2],hD⟩ (RT.refl _))
   refine Steps2.pure (v:=.bool qs) RT.refl rfl (fun f w' hR hV=>⟨?_,?_⟩) ?_
   ·(rfl)
   ·(obtain ⟨h6,_⟩:=hV;replace h6:∃ C D:List Value,f 6=.tuple #[.agg C.toArray,.agg D.toArray,.bool qs]∧EnC qe C∧LnC qp D:=h6;have hkw:=hR.keep wr (Nat.le_refl _) (Keeps.refl wr).drew;obtain ⟨c0,c1⟩:=HCC.out _ hkw;obtain ⟨C,D,e6,_,_⟩:=h6;go_simp;all_goals (try with_reducible rfl))
   refine Steps2.call (fun f W=>∃ bb,f 10=.pointer (some ⟨bb,0,none⟩)∧wr.heap.size≤bb∧∃ cs,cs.length=7∧RowB W bb 56 cs) rfl (fun _ _ _ k ⟨bb,h1,h2,h3⟩=>⟨bb,h1,h2,k.e1 bb h3⟩) (fun _ _ _ h _ hf=>by rw [h] at hf;exact hf) (fun f w' hR hV=>⟨?_,?_⟩) ?_
   ·(rfl)
   ·(clear hV;have hkw:=hR.keep wr (Nat.le_refl _) (Keeps.refl wr).drew;obtain ⟨c0,c1⟩:=HCC.out _ hkw;go_simp;go_simp;exact StepPost2.of _ rfl ⟨_,by simp [upd2],hR.size,[_,_,_,_,_,_,_],rfl,RowB.new _ _ _⟩ (RT.keeps ((Keeps.refl _).alloc _)))
   refine Steps2.call (fun f W=>∃ bb,f 11=.pointer (some ⟨bb,0,none⟩)∧wr.heap.size≤bb∧∃ cs,cs.length=3∧RowB W bb 103 cs) rfl (fun _ _ _ k ⟨bb,h1,h2,h3⟩=>⟨bb,h1,h2,k.e2 bb h3⟩) (fun _ _ _ h _ hf=>by rw [h] at hf;exact hf) (fun f w' hR hV=>⟨?_,?_⟩) ?_
   ·(rfl)
   ·(clear hV;have hkw:=hR.keep wr (Nat.le_refl _) (Keeps.refl wr).drew;obtain ⟨c0,c1⟩:=HCC.out _ hkw;go_simp;go_simp;exact StepPost2.of _ rfl ⟨_,by simp [upd2],hR.size,[_,_,_],rfl,RowB.new _ _ _⟩ (RT.keeps ((Keeps.refl _).alloc _)))
   refine Steps2.call (fun f W=>∃ bb,f 10=.pointer (some ⟨bb,0,none⟩)∧∃ cs,EnC qe cs∧RowB W bb 56 cs) rfl (fun _ _ _ k ⟨bb,h1,h3⟩=>⟨bb,h1,k.f1 bb h3⟩) (fun f f' w _ hd ⟨bb,h1,h2⟩=>⟨bb,(hd 10 (by decide)).symm.trans h1,h2⟩) (fun f w' hR hV=>⟨?_,?_⟩) ?_
   ·(rfl)
   ·(obtain ⟨h7,h10,_⟩:=hV;replace h7:∃ C:List Value,f 7=.agg C.toArray∧EnC qe C:=h7;replace h10:∃ bb,f 10=.pointer (some ⟨bb,0,none⟩)∧wr.heap.size≤bb∧∃ cs,cs.length=7∧RowB w' bb 56 cs:=h10;have hkw:=hR.keep wr (Nat.le_refl _) (Keeps.refl wr).drew;obtain ⟨c0,c1⟩:=HCC.out _ hkw;obtain ⟨bb,e10,hb,cs,hl,hr⟩:=h10;obtain ⟨C,e7,hp⟩:=h7;exact wp_store_mid 56 (.tmp 10) (.tmp 26) rfl bb 0 C.toArray e10 e7 (by rw [List.size_toArray,hp.1,← hl];exact rowB_thereI hr) (by rw [List.size_toArray,hp.1];exact enSz7) (all_oneCell_toArray hp.2.1) (StepPost2.of _ rfl ⟨bb,by simpa [upd2] using e10,C,hp,rowB_all hr (hp.1.trans hl.symm)⟩ (RT.set1 (by decide) hb hr (hp.1.trans hl.symm) hl hp)))
   refine Steps2.call (fun f W=>∃ bb,f 11=.pointer (some ⟨bb,0,none⟩)∧∃ cs,LnC qp cs∧RowB W bb 103 cs) rfl (fun _ _ _ k ⟨bb,h1,h3⟩=>⟨bb,h1,k.f2 bb h3⟩) (fun f f' w _ hd ⟨bb,h1,h2⟩=>⟨bb,(hd 11 (by decide)).symm.trans h1,h2⟩) (fun f w' hR hV=>⟨?_,?_⟩) ?_
   ·(rfl)
   ·(obtain ⟨h8,h11,_⟩:=hV;replace h8:∃ D:List Value,f 8=.agg D.toArray∧LnC qp D:=h8;replace h11:∃ bb,f 11=.pointer (some ⟨bb,0,none⟩)∧wr.heap.size≤bb∧∃ cs,cs.length=3∧RowB w' bb 103 cs:=h11;have hkw:=hR.keep wr (Nat.le_refl _) (Keeps.refl wr).drew;obtain ⟨c0,c1⟩:=HCC.out _ hkw;obtain ⟨bb,e11,hb,cs,hl,hr⟩:=h11;obtain ⟨D,e8,hp⟩:=h8;exact wp_store_mid 103 (.tmp 11) (.tmp 27) rfl bb 0 D.toArray e11 e8 (by rw [List.size_toArray,hp.1,← hl];exact rowB_thereI hr) (by rw [List.size_toArray,hp.1];exact lnSz3) (all_oneCell_toArray hp.2.1) (StepPost2.of _ rfl ⟨bb,by simpa [upd2] using e11,D,hp,rowB_all hr (hp.1.trans hl.symm)⟩ (RT.set2 (by decide) hb hr (hp.1.trans hl.symm) hl hp)))
   (refine Steps2.pure (v:=?_) RT.refl rfl (fun f w' hR hV=>⟨?_,?_⟩) ?_;rotate_left;(focus rfl);(focus ((repeat (obtain ⟨hq,hV⟩:=hV;(try replace hq:_=_:=hq)));have hkw:=hR.keep wr (Nat.le_refl _) (Keeps.refl wr).drew;obtain ⟨c0,c1⟩:=HCC.out _ hkw;go_simp;all_goals (try with_reducible rfl))))
   all_goals (refine Steps2.done [14,12,13] (by kernel_rfl) rfl (fun f wz hR hV=>?_);obtain ⟨h14,h12,h13,_⟩:=hV;replace h14:f 14=_:=h14;replace h12:∃ bb,f 10=.pointer (some ⟨bb,0,none⟩)∧∃ cs,EnC qe cs∧RowB wz bb 56 cs:=h12;replace h13:∃ bb,f 11=.pointer (some ⟨bb,0,none⟩)∧∃ cs,LnC qp cs∧RowB wz bb 103 cs:=h13;simp only [h14])
   obtain ⟨b10,e10,C,hC,rC⟩:=h12
   obtain ⟨b11,e11,D,hD,rD⟩:=h13
   simp only [e10,e11]
   have hkz:=hR.keep wr (Nat.le_refl _) (Keeps.refl wr).drew
   have y1:=RowB.cell rC 1 _ hC.2.2
   have y2:=RowB.cell rD 2 _ hD.2.2
   have HWZ:=Lib.hid (HW1.out.trans (HW.out.trans hkz))
   have HWQ:=Lib.hid (HW.out.trans hkz)
   obtain ⟨c0,c1⟩:=HCC.out _ hkz
   have HX:Hid (∀ W,Keeps wz.drew W→W.cell? ⟨b10,1,none⟩=some (.int .i64 qe)∧W.cell? ⟨b11,2,none⟩=some (.int .i64 qp)∧W.cell? ⟨b,o+k * 2,none⟩=some (.int .i64 r.e)∧W.cell? ⟨b,o+k * 2+1,none⟩=some (.int .i64 r.l)):=Lib.hid (fun W hW=>⟨hW.cell y1,hW.cell y2,hW.cell c0,hW.cell c1⟩)
   have hrz:=HHL.out.keeps HWZ.out
   obtain ⟨mb,hmb⟩:∃ mb,memB (L.take k) r=mb:=⟨_,rfl⟩
   have hcut:=run_cutTo Tryz.underlying46 Tryz.sizeOf51 ao L.length cap k (by omega) hcap
   have HIN:Hid (∀ W,Keeps wz.drew W→Calls Tryz.prog 14 #[.slice ao k cap,.agg #[.int .i64 r.e,.int .i64 r.l]] W fun e w'=>e=.returned (.bool mb)∧Keeps W w'):=Lib.hid (fun W hW=>by
    have:=in_any (L.take k) r ao cap b o W (by unfold Recs;rw [List.length_take,Nat.min_eq_left (Nat.le_of_lt hlt),flat_takeR Rf.len];exact Sl.take (hrz.keeps ((Keeps.refl wz).drew.trans hW)) k (Nat.le_of_lt hlt))
    rw [List.length_take,Nat.min_eq_left (Nat.le_of_lt hlt),hmb] at this
    exact this)
   clear rC rD hC hD hkz hrz hR e10 e11 h14 c0 c1
   have HMB:=Lib.hid hmb
   clear hmb
   cases hq:ep es r with
   | none=>
    have HB:=Lib.hid (sideR_bad1 (sideE_bad1 (es:=es) hlt (by rw [HRK.out];exact hq)))
    obtain rfl:qs=false:=by rw [← HQS.out,hq];rfl
    clear hq
    go_upto_region 6 with fail
    refine wp_region_steps (A:=?_) Keeps [some 29,some 30,some 31,some 32,some 33,some 34,some 35,some 36,some 37,some 38,some 39,some 40,some 41,some 42,some 43,some 44,some 45,some 46,some 47,some 48,some 49,some 50,some 51,some 52,some 53,some 54,some 55,some 56] [[],[0],[1],[2],[2,3],[2,4],[5],[5,6],[5],[5,7,8],[5,9],[10],[10,11],[10],[10,12,13],[5,10,14],[2,5,15],[2,16],[17],[18],[18],[18,19,20],[18],[18],[18,22,23],[18,24],[18,21,25],[18,26]] 28 (by kernel_rfl) (by kernel_rfl) (by kernel_rfl) (by kernel_rfl) (by kernel_rfl) (by kernel_rfl) Keeps.refl (fun _ _ _=>Keeps.trans) ?_ ?_
    rotate_left
    ·intro f;simp only [putL,Act.put,List.setIfInBounds_toArray,List.set_cons_zero,List.set_cons_succ,Nat.zero_add,Nat.reduceAdd];exact rfl
    iterate 26 (all_goals first
     | (refine Steps.pure (v:=?_) Keeps.refl rfl (fun f w' hR hV=>⟨?_,?_⟩) ?_;rotate_left;(focus ((repeat (obtain ⟨hq,hV⟩:=hV;(try replace hq:_=_:=hq)));first | exact want_yes rfl rfl rfl (by assumption) | rfl));(focus ((repeat (obtain ⟨hq,hV⟩:=hV;(try replace hq:_=_:=hq)));obtain ⟨x1,x2,c0,c1⟩:=HX.out _ hR;go_simp;all_goals (try with_reducible rfl))))
     | (refine Steps.skip rfl (fun f w' hR hV=>?_) ?_;(focus ((repeat (obtain ⟨hq,hV⟩:=hV;(try replace hq:_=_:=hq)));first | exact want_no rfl rfl rfl (by assumption) rfl | exact want_undef rfl rfl rfl (by assumption)))))
    all_goals first
     | (refine Steps.call (fun _ v=>v=.bool mb) rfl (fun _ _ _ _ h=>h) (fun f w' hR hV=>⟨?_,?_⟩) ?_;(focus (obtain ⟨h18,_,_,_⟩:=hV;replace h18:f 18=_:=h18;exact want_yes (t:=47) rfl (by kernel_rfl) rfl h18));(focus (obtain ⟨h18,h21,h25,_⟩:=hV;replace h18:f 18=_:=h18;replace h21:f 21=_:=h21;replace h25:f 25=_:=h25;obtain ⟨x1,x2,c0,c1⟩:=HX.out _ hR;go_simp;go_at_call 14;refine (HIN.out _ hR).mono ?_;rintro e w2 ⟨rfl,hk2⟩;exact StepPost.of _ rfl rfl hk2)))
     | (refine Steps.skip rfl (fun f w' hR hV=>?_) ?_;(focus (obtain ⟨h18,_,_,_⟩:=hV;replace h18:f 18=_:=h18;first | exact want_no (t:=47) rfl (by kernel_rfl) rfl h18 rfl | exact want_undef (t:=47) rfl (by kernel_rfl) rfl h18)))
    (all_goals (refine Steps.pure (v:=?_) Keeps.refl rfl (fun f w' hR hV=>⟨?_,?_⟩) ?_;rotate_left;(focus rfl);(focus ((repeat (obtain ⟨hq,hV⟩:=hV;(try replace hq:_=_:=hq)));obtain ⟨x1,x2,c0,c1⟩:=HX.out _ hR;go_simp;all_goals (try with_reducible rfl)))))
    all_goals (refine Steps.done [27] (by kernel_rfl) rfl (fun f wq hR hV=>?_);obtain ⟨h27,_⟩:=hV;replace h27:f 27=_:=h27;simp only [h27])
    go_wp2_with fail
    (refine bodyPost_ret (results_tmp3 rfl _ _ _) rfl ?_)
    rw [HB.out]
    exact ⟨rfl,HWZ.out.trans ((Keeps.refl wz).drew.trans hR)⟩
   | some q=>
    obtain ⟨x,y⟩:=q
    obtain rfl:qs=true:=by rw [← HQS.out,hq];rfl
    obtain rfl:qe=x:=by rw [← HQE.out,hq];rfl
    obtain rfl:qp=y:=by rw [← HQP.out,hq];rfl
    have HQ:=Lib.hid hq
    clear hq
    have HSt:k=0∨(qe=fe∧qp=fp)→Hid (∀ j (hj:j < L.length),j < k+1→ep es L[j]=some (qe,qp)):=fun h=>Lib.hid (fun j hj hjk=>by
     by_cases e:j < k
     ·rcases h with h | ⟨h1,h2⟩
      ·omega
      ·rw [h1,h2];exact HA.out j hj e
     ·obtain rfl:j=k:=by omega
      rw [HRK.out];exact HQ.out)
    have HNt:mb=false→Hid (∀ j (hj:j < L.length),j < k+1→L[j]∉L.take j):=fun h=>Lib.hid (fun j hj hjk=>by
     by_cases e:j < k
     ·exact HN.out j hj e
     ·obtain rfl:j=k:=by omega
      rw [HRK.out]
      have:=HMB.out
      rw [h] at this
      exact of_decide_eq_false this)
    have HBt:mb=true→Hid (sideR es L=(0,0,false)):=fun h=>Lib.hid (sideR_bad2 hlt (by
     rw [HRK.out]
     have:=HMB.out
     rw [h] at this
     exact of_decide_eq_true this))
    by_cases hk0:k=0
    ·have HS:=HSt (.inl hk0)
     have e1:decide (0 < k)=false:=decide_eq_false (by omega)
     clear hk0 HSt
     cases mb with
     | true=>
      have HB:=HBt rfl
      clear HBt HNt
      go_upto_region 6 with fail
      refine wp_region_steps (A:=?_) Keeps [some 29,some 30,some 31,some 32,some 33,some 34,some 35,some 36,some 37,some 38,some 39,some 40,some 41,some 42,some 43,some 44,some 45,some 46,some 47,some 48,some 49,some 50,some 51,some 52,some 53,some 54,some 55,some 56] [[],[0],[1],[2],[2,3],[2,4],[5],[5,6],[5],[5,7,8],[5,9],[10],[10,11],[10],[10,12,13],[5,10,14],[2,5,15],[2,16],[17],[18],[18],[18,19,20],[18],[18],[18,22,23],[18,24],[18,21,25],[18,26]] 28 (by kernel_rfl) (by kernel_rfl) (by kernel_rfl) (by kernel_rfl) (by kernel_rfl) (by kernel_rfl) Keeps.refl (fun _ _ _=>Keeps.trans) ?_ ?_
      rotate_left
      ·intro f;simp only [putL,Act.put,List.setIfInBounds_toArray,List.set_cons_zero,List.set_cons_succ,Nat.zero_add,Nat.reduceAdd];exact rfl
      iterate 26 (all_goals first
       | (refine Steps.pure (v:=?_) Keeps.refl rfl (fun f w' hR hV=>⟨?_,?_⟩) ?_;rotate_left;(focus ((repeat (obtain ⟨hq,hV⟩:=hV;(try replace hq:_=_:=hq)));first | exact want_yes rfl rfl rfl (by assumption) | rfl));(focus ((repeat (obtain ⟨hq,hV⟩:=hV;(try replace hq:_=_:=hq)));obtain ⟨x1,x2,c0,c1⟩:=HX.out _ hR;go_simp;all_goals (try with_reducible rfl))))
       | (refine Steps.skip rfl (fun f w' hR hV=>?_) ?_;(focus ((repeat (obtain ⟨hq,hV⟩:=hV;(try replace hq:_=_:=hq)));first | exact want_no rfl rfl rfl (by assumption) rfl | exact want_undef rfl rfl rfl (by assumption)))))
      all_goals first
       | (refine Steps.call (fun _ v=>v=.bool true) rfl (fun _ _ _ _ h=>h) (fun f w' hR hV=>⟨?_,?_⟩) ?_;(focus (obtain ⟨h18,_,_,_⟩:=hV;replace h18:f 18=_:=h18;exact want_yes (t:=47) rfl (by kernel_rfl) rfl h18));(focus (obtain ⟨h18,h21,h25,_⟩:=hV;replace h18:f 18=_:=h18;replace h21:f 21=_:=h21;replace h25:f 25=_:=h25;obtain ⟨x1,x2,c0,c1⟩:=HX.out _ hR;go_simp;go_at_call 14;refine (HIN.out _ hR).mono ?_;rintro e w2 ⟨rfl,hk2⟩;exact StepPost.of _ rfl rfl hk2)))
       | (refine Steps.skip rfl (fun f w' hR hV=>?_) ?_;(focus (obtain ⟨h18,_,_,_⟩:=hV;replace h18:f 18=_:=h18;first | exact want_no (t:=47) rfl (by kernel_rfl) rfl h18 rfl | exact want_undef (t:=47) rfl (by kernel_rfl) rfl h18)))
      (all_goals (refine Steps.pure (v:=?_) Keeps.refl rfl (fun f w' hR hV=>⟨?_,?_⟩) ?_;rotate_left;(focus rfl);(focus ((repeat (obtain ⟨hq,hV⟩:=hV;(try replace hq:_=_:=hq)));obtain ⟨x1,x2,c0,c1⟩:=HX.out _ hR;go_simp;all_goals (try with_reducible rfl)))))
      all_goals (refine Steps.done [27] (by kernel_rfl) rfl (fun f wq hR hV=>?_);obtain ⟨h27,_⟩:=hV;replace h27:f 27=_:=h27;simp only [h27])
      go_wp2_with fail
      (refine bodyPost_ret (results_tmp3 rfl _ _ _) rfl ?_)
      rw [HB.out]
      exact ⟨rfl,HWZ.out.trans ((Keeps.refl wz).drew.trans hR)⟩
     | false=>
      have HNS:=HNt rfl
      clear HBt HNt
      go_upto_region 6 with fail
      refine wp_region_steps (A:=?_) Keeps [some 29,some 30,some 31,some 32,some 33,some 34,some 35,some 36,some 37,some 38,some 39,some 40,some 41,some 42,some 43,some 44,some 45,some 46,some 47,some 48,some 49,some 50,some 51,some 52,some 53,some 54,some 55,some 56] [[],[0],[1],[2],[2,3],[2,4],[5],[5,6],[5],[5,7,8],[5,9],[10],[10,11],[10],[10,12,13],[5,10,14],[2,5,15],[2,16],[17],[18],[18],[18,19,20],[18],[18],[18,22,23],[18,24],[18,21,25],[18,26]] 28 (by kernel_rfl) (by kernel_rfl) (by kernel_rfl) (by kernel_rfl) (by kernel_rfl) (by kernel_rfl) Keeps.refl (fun _ _ _=>Keeps.trans) ?_ ?_
      rotate_left
      ·intro f;simp only [putL,Act.put,List.setIfInBounds_toArray,List.set_cons_zero,List.set_cons_succ,Nat.zero_add,Nat.reduceAdd];exact rfl
      iterate 26 (all_goals first
       | (refine Steps.pure (v:=?_) Keeps.refl rfl (fun f w' hR hV=>⟨?_,?_⟩) ?_;rotate_left;(focus ((repeat (obtain ⟨hq,hV⟩:=hV;(try replace hq:_=_:=hq)));first | exact want_yes rfl rfl rfl (by assumption) | rfl));(focus ((repeat (obtain ⟨hq,hV⟩:=hV;(try replace hq:_=_:=hq)));obtain ⟨x1,x2,c0,c1⟩:=HX.out _ hR;go_simp;all_goals (try with_reducible rfl))))
       | (refine Steps.skip rfl (fun f w' hR hV=>?_) ?_;(focus ((repeat (obtain ⟨hq,hV⟩:=hV;(try replace hq:_=_:=hq)));first | exact want_no rfl rfl rfl (by assumption) rfl | exact want_undef rfl rfl rfl (by assumption)))))
      all_goals first
       | (refine Steps.call (fun _ v=>v=.bool false) rfl (fun _ _ _ _ h=>h) (fun f w' hR hV=>⟨?_,?_⟩) ?_;(focus (obtain ⟨h18,_,_,_⟩:=hV;replace h18:f 18=_:=h18;exact want_yes (t:=47) rfl (by kernel_rfl) rfl h18));(focus (obtain ⟨h18,h21,h25,_⟩:=hV;replace h18:f 18=_:=h18;replace h21:f 21=_:=h21;replace h25:f 25=_:=h25;obtain ⟨x1,x2,c0,c1⟩:=HX.out _ hR;go_simp;go_at_call 14;refine (HIN.out _ hR).mono ?_;rintro e w2 ⟨rfl,hk2⟩;exact StepPost.of _ rfl rfl hk2)))
       | (refine Steps.skip rfl (fun f w' hR hV=>?_) ?_;(focus (obtain ⟨h18,_,_,_⟩:=hV;replace h18:f 18=_:=h18;first | exact want_no (t:=47) rfl (by kernel_rfl) rfl h18 rfl | exact want_undef (t:=47) rfl (by kernel_rfl) rfl h18)))
      (all_goals (refine Steps.pure (v:=?_) Keeps.refl rfl (fun f w' hR hV=>⟨?_,?_⟩) ?_;rotate_left;(focus rfl);(focus ((repeat (obtain ⟨hq,hV⟩:=hV;(try replace hq:_=_:=hq)));obtain ⟨x1,x2,c0,c1⟩:=HX.out _ hR;go_simp;all_goals (try with_reducible rfl)))))
      all_goals (refine Steps.done [27] (by kernel_rfl) rfl (fun f wq hR hV=>?_);obtain ⟨h27,_⟩:=hV;replace h27:f 27=_:=h27;simp only [h27])
      have hkq:=(Keeps.refl wz).drew.trans hR
      have HKQ:=Lib.hid (HWQ.out.trans hkq)
      have z1:=hkq.cell y1
      have z2:=hkq.cell y2
      clear hR hkq y1 y2
      go_wp2_with fail
      go_quiet (fail)
      go_wp2_with fail
      go_roundw
      case rel=>exact ⟨k+1,qe,qp,by omega,by go_num,rfl,rfl,HS,Lib.hid (fun h=>absurd h (Nat.succ_ne_zero k)),HNS,Lib.hid (HKQ.out.drewN _)⟩
      case measure=>simp [intOf];omega
    ·have e1:decide (0 < k)=true:=decide_eq_true (by omega)
     have h0:ep es (L[0]'(by omega))=some (fe,fp):=HA.out 0 (by omega) (by omega)
     have HBD:(qe,qp)≠(fe,fp)→Hid (sideR es L=(0,0,false)):=fun hne=>Lib.hid (sideR_bad1 (sideE_bad2 hlt h0 (by rw [HRK.out];exact HQ.out) hne))
     clear h0 hk0
     by_cases hxf:qe=fe
     ·by_cases hyp:qp=fp
      ·have HS:=HSt (.inr ⟨hxf,hyp⟩)
       have e2:(qe != fe)=false:=by simp [hxf]
       have e3:(qp != fp)=false:=by simp [hyp]
       clear hxf hyp HSt HBD
       cases mb with
       | true=>
        have HB:=HBt rfl
        clear HBt HNt
        go_upto_region 6 with fail
        refine wp_region_steps (A:=?_) Keeps [some 29,some 30,some 31,some 32,some 33,some 34,some 35,some 36,some 37,some 38,some 39,some 40,some 41,some 42,some 43,some 44,some 45,some 46,some 47,some 48,some 49,some 50,some 51,some 52,some 53,some 54,some 55,some 56] [[],[0],[1],[2],[2,3],[2,4],[5],[5,6],[5],[5,7,8],[5,9],[10],[10,11],[10],[10,12,13],[5,10,14],[2,5,15],[2,16],[17],[18],[18],[18,19,20],[18],[18],[18,22,23],[18,24],[18,21,25],[18,26]] 28 (by kernel_rfl) (by kernel_rfl) (by kernel_rfl) (by kernel_rfl) (by kernel_rfl) (by kernel_rfl) Keeps.refl (fun _ _ _=>Keeps.trans) ?_ ?_
        rotate_left
        ·intro f;simp only [putL,Act.put,List.setIfInBounds_toArray,List.set_cons_zero,List.set_cons_succ,Nat.zero_add,Nat.reduceAdd];exact rfl
        iterate 26 (all_goals first
         | (refine Steps.pure (v:=?_) Keeps.refl rfl (fun f w' hR hV=>⟨?_,?_⟩) ?_;rotate_left;(focus ((repeat (obtain ⟨hq,hV⟩:=hV;(try replace hq:_=_:=hq)));first | exact want_yes rfl rfl rfl (by assumption) | rfl));(focus ((repeat (obtain ⟨hq,hV⟩:=hV;(try replace hq:_=_:=hq)));obtain ⟨x1,x2,c0,c1⟩:=HX.out _ hR;go_simp;all_goals (try with_reducible rfl))))
         | (refine Steps.skip rfl (fun f w' hR hV=>?_) ?_;(focus ((repeat (obtain ⟨hq,hV⟩:=hV;(try replace hq:_=_:=hq)));first | exact want_no rfl rfl rfl (by assumption) rfl | exact want_undef rfl rfl rfl (by assumption)))))
        all_goals first
         | (refine Steps.call (fun _ v=>v=.bool true) rfl (fun _ _ _ _ h=>h) (fun f w' hR hV=>⟨?_,?_⟩) ?_;(focus (obtain ⟨h18,_,_,_⟩:=hV;replace h18:f 18=_:=h18;exact want_yes (t:=47) rfl (by kernel_rfl) rfl h18));(focus (obtain ⟨h18,h21,h25,_⟩:=hV;replace h18:f 18=_:=h18;replace h21:f 21=_:=h21;replace h25:f 25=_:=h25;obtain ⟨x1,x2,c0,c1⟩:=HX.out _ hR;go_simp;go_at_call 14;refine (HIN.out _ hR).mono ?_;rintro e w2 ⟨rfl,hk2⟩;exact StepPost.of _ rfl rfl hk2)))
         | (refine Steps.skip rfl (fun f w' hR hV=>?_) ?_;(focus (obtain ⟨h18,_,_,_⟩:=hV;replace h18:f 18=_:=h18;first | exact want_no (t:=47) rfl (by kernel_rfl) rfl h18 rfl | exact want_undef (t:=47) rfl (by kernel_rfl) rfl h18)))
        (all_goals (refine Steps.pure (v:=?_) Keeps.refl rfl (fun f w' hR hV=>⟨?_,?_⟩) ?_;rotate_left;(focus rfl);(focus ((repeat (obtain ⟨hq,hV⟩:=hV;(try replace hq:_=_:=hq)));obtain ⟨x1,x2,c0,c1⟩:=HX.out _ hR;go_simp;all_goals (try with_reducible rfl)))))
        all_goals (refine Steps.done [27] (by kernel_rfl) rfl (fun f wq hR hV=>?_);obtain ⟨h27,_⟩:=hV;replace h27:f 27=_:=h27;simp only [h27])
        go_wp2_with fail
        (refine bodyPost_ret (results_tmp3 rfl _ _ _) rfl ?_)
        rw [HB.out]
        exact ⟨rfl,HWZ.out.trans ((Keeps.refl wz).drew.trans hR)⟩
       | false=>
        have HNS:=HNt rfl
        clear HBt HNt
        go_upto_region 6 with fail
        refine wp_region_steps (A:=?_) Keeps [some 29,some 30,some 31,some 32,some 33,some 34,some 35,some 36,some 37,some 38,some 39,some 40,some 41,some 42,some 43,some 44,some 45,some 46,some 47,some 48,some 49,some 50,some 51,some 52,some 53,some 54,some 55,some 56] [[],[0],[1],[2],[2,3],[2,4],[5],[5,6],[5],[5,7,8],[5,9],[10],[10,11],[10],[10,12,13],[5,10,14],[2,5,15],[2,16],[17],[18],[18],[18,19,20],[18],[18],[18,22,23],[18,24],[18,21,25],[18,26]] 28 (by kernel_rfl) (by kernel_rfl) (by kernel_rfl) (by kernel_rfl) (by kernel_rfl) (by kernel_rfl) Keeps.refl (fun _ _ _=>Keeps.trans) ?_ ?_
        rotate_left
        ·intro f;simp only [putL,Act.put,List.setIfInBounds_toArray,List.set_cons_zero,List.set_cons_succ,Nat.zero_add,Nat.reduceAdd];exact rfl
        iterate 26 (all_goals first
         | (refine Steps.pure (v:=?_) Keeps.refl rfl (fun f w' hR hV=>⟨?_,?_⟩) ?_;rotate_left;(focus ((repeat (obtain ⟨hq,hV⟩:=hV;(try replace hq:_=_:=hq)));first | exact want_yes rfl rfl rfl (by assumption) | rfl));(focus ((repeat (obtain ⟨hq,hV⟩:=hV;(try replace hq:_=_:=hq)));obtain ⟨x1,x2,c0,c1⟩:=HX.out _ hR;go_simp;all_goals (try with_reducible rfl))))
         | (refine Steps.skip rfl (fun f w' hR hV=>?_) ?_;(focus ((repeat (obtain ⟨hq,hV⟩:=hV;(try replace hq:_=_:=hq)));first | exact want_no rfl rfl rfl (by assumption) rfl | exact want_undef rfl rfl rfl (by assumption)))))
        all_goals first
         | (refine Steps.call (fun _ v=>v=.bool false) rfl (fun _ _ _ _ h=>h) (fun f w' hR hV=>⟨?_,?_⟩) ?_;(focus (obtain ⟨h18,_,_,_⟩:=hV;replace h18:f 18=_:=h18;exact want_yes (t:=47) rfl (by kernel_rfl) rfl h18));(focus (obtain ⟨h18,h21,h25,_⟩:=hV;replace h18:f 18=_:=h18;replace h21:f 21=_:=h21;replace h25:f 25=_:=h25;obtain ⟨x1,x2,c0,c1⟩:=HX.out _ hR;go_simp;go_at_call 14;refine (HIN.out _ hR).mono ?_;rintro e w2 ⟨rfl,hk2⟩;exact StepPost.of _ rfl rfl hk2)))
         | (refine Steps.skip rfl (fun f w' hR hV=>?_) ?_;(focus (obtain ⟨h18,_,_,_⟩:=hV;replace h18:f 18=_:=h18;first | exact want_no (t:=47) rfl (by kernel_rfl) rfl h18 rfl | exact want_undef (t:=47) rfl (by kernel_rfl) rfl h18)))
        (all_goals (refine Steps.pure (v:=?_) Keeps.refl rfl (fun f w' hR hV=>⟨?_,?_⟩) ?_;rotate_left;(focus rfl);(focus ((repeat (obtain ⟨hq,hV⟩:=hV;(try replace hq:_=_:=hq)));obtain ⟨x1,x2,c0,c1⟩:=HX.out _ hR;go_simp;all_goals (try with_reducible rfl)))))
        all_goals (refine Steps.done [27] (by kernel_rfl) rfl (fun f wq hR hV=>?_);obtain ⟨h27,_⟩:=hV;replace h27:f 27=_:=h27;simp only [h27])
        have hkq:=(Keeps.refl wz).drew.trans hR
        have HKQ:=Lib.hid (HWQ.out.trans hkq)
        have z1:=hkq.cell y1
        have z2:=hkq.cell y2
        clear hR hkq y1 y2
        go_wp2_with fail
        go_quiet (fail)
        go_wp2_with fail
        go_roundw
        case rel=>exact ⟨k+1,qe,qp,by omega,by go_num,rfl,rfl,HS,Lib.hid (fun h=>absurd h (Nat.succ_ne_zero k)),HNS,Lib.hid (HKQ.out.drewN _)⟩
        case measure=>simp [intOf];omega
      ·have HB:=HBD (by intro h;cases h;exact hyp rfl)
       have e2:(qe != fe)=false:=by simp [hxf]
       have e3:(qp != fp)=true:=by simpa using hyp
       clear hxf hyp HSt HBD HBt HNt
       go_upto_region 6 with fail
       refine wp_region_steps (A:=?_) Keeps [some 29,some 30,some 31,some 32,some 33,some 34,some 35,some 36,some 37,some 38,some 39,some 40,some 41,some 42,some 43,some 44,some 45,some 46,some 47,some 48,some 49,some 50,some 51,some 52,some 53,some 54,some 55,some 56] [[],[0],[1],[2],[2,3],[2,4],[5],[5,6],[5],[5,7,8],[5,9],[10],[10,11],[10],[10,12,13],[5,10,14],[2,5,15],[2,16],[17],[18],[18],[18,19,20],[18],[18],[18,22,23],[18,24],[18,21,25],[18,26]] 28 (by kernel_rfl) (by kernel_rfl) (by kernel_rfl) (by kernel_rfl) (by kernel_rfl) (by kernel_rfl) Keeps.refl (fun _ _ _=>Keeps.trans) ?_ ?_
       rotate_left
       ·intro f;simp only [putL,Act.put,List.setIfInBounds_toArray,List.set_cons_zero,List.set_cons_succ,Nat.zero_add,Nat.reduceAdd];exact rfl
       iterate 26 (all_goals first
        | (refine Steps.pure (v:=?_) Keeps.refl rfl (fun f w' hR hV=>⟨?_,?_⟩) ?_;rotate_left;(focus ((repeat (obtain ⟨hq,hV⟩:=hV;(try replace hq:_=_:=hq)));first | exact want_yes rfl rfl rfl (by assumption) | rfl));(focus ((repeat (obtain ⟨hq,hV⟩:=hV;(try replace hq:_=_:=hq)));obtain ⟨x1,x2,c0,c1⟩:=HX.out _ hR;go_simp;all_goals (try with_reducible rfl))))
        | (refine Steps.skip rfl (fun f w' hR hV=>?_) ?_;(focus ((repeat (obtain ⟨hq,hV⟩:=hV;(try replace hq:_=_:=hq)));first | exact want_no rfl rfl rfl (by assumption) rfl | exact want_undef rfl rfl rfl (by assumption)))))
       all_goals first
        | (refine Steps.call (fun _ v=>v=.bool mb) rfl (fun _ _ _ _ h=>h) (fun f w' hR hV=>⟨?_,?_⟩) ?_;(focus (obtain ⟨h18,_,_,_⟩:=hV;replace h18:f 18=_:=h18;exact want_yes (t:=47) rfl (by kernel_rfl) rfl h18));(focus (obtain ⟨h18,h21,h25,_⟩:=hV;replace h18:f 18=_:=h18;replace h21:f 21=_:=h21;replace h25:f 25=_:=h25;obtain ⟨x1,x2,c0,c1⟩:=HX.out _ hR;go_simp;go_at_call 14;refine (HIN.out _ hR).mono ?_;rintro e w2 ⟨rfl,hk2⟩;exact StepPost.of _ rfl rfl hk2)))
        | (refine Steps.skip rfl (fun f w' hR hV=>?_) ?_;(focus (obtain ⟨h18,_,_,_⟩:=hV;replace h18:f 18=_:=h18;first | exact want_no (t:=47) rfl (by kernel_rfl) rfl h18 rfl | exact want_undef (t:=47) rfl (by kernel_rfl) rfl h18)))
       (all_goals (refine Steps.pure (v:=?_) Keeps.refl rfl (fun f w' hR hV=>⟨?_,?_⟩) ?_;rotate_left;(focus rfl);(focus ((repeat (obtain ⟨hq,hV⟩:=hV;(try replace hq:_=_:=hq)));obtain ⟨x1,x2,c0,c1⟩:=HX.out _ hR;go_simp;all_goals (try with_reducible rfl)))))
       all_goals (refine Steps.done [27] (by kernel_rfl) rfl (fun f wq hR hV=>?_);obtain ⟨h27,_⟩:=hV;replace h27:f 27=_:=h27;simp only [h27])
       go_wp2_with fail
       (refine bodyPost_ret (results_tmp3 rfl _ _ _) rfl ?_)
       rw [HB.out]
       exact ⟨rfl,HWZ.out.trans ((Keeps.refl wz).drew.trans hR)⟩
     ·have HB:=HBD (by intro h;cases h;exact hxf rfl)
      have e2:(qe != fe)=true:=by simpa using hxf
      clear hxf HSt HBD HBt HNt
      go_upto_region 6 with fail
      refine wp_region_steps (A:=?_) Keeps [some 29,some 30,some 31,some 32,some 33,some 34,some 35,some 36,some 37,some 38,some 39,some 40,some 41,some 42,some 43,some 44,some 45,some 46,some 47,some 48,some 49,some 50,some 51,some 52,some 53,some 54,some 55,some 56] [[],[0],[1],[2],[2,3],[2,4],[5],[5,6],[5],[5,7,8],[5,9],[10],[10,11],[10],[10,12,13],[5,10,14],[2,5,15],[2,16],[17],[18],[18],[18,19,20],[18],[18],[18,22,23],[18,24],[18,21,25],[18,26]] 28 (by kernel_rfl) (by kernel_rfl) (by kernel_rfl) (by kernel_rfl) (by kernel_rfl) (by kernel_rfl) Keeps.refl (fun _ _ _=>Keeps.trans) ?_ ?_
      rotate_left
      ·intro f;simp only [putL,Act.put,List.setIfInBounds_toArray,List.set_cons_zero,List.set_cons_succ,Nat.zero_add,Nat.reduceAdd];exact rfl
      iterate 26 (all_goals first
       | (refine Steps.pure (v:=?_) Keeps.refl rfl (fun f w' hR hV=>⟨?_,?_⟩) ?_;rotate_left;(focus ((repeat (obtain ⟨hq,hV⟩:=hV;(try replace hq:_=_:=hq)));first | exact want_yes rfl rfl rfl (by assumption) | rfl));(focus ((repeat (obtain ⟨hq,hV⟩:=hV;(try replace hq:_=_:=hq)));obtain ⟨x1,x2,c0,c1⟩:=HX.out _ hR;go_simp;all_goals (try with_reducible rfl))))
       | (refine Steps.skip rfl (fun f w' hR hV=>?_) ?_;(focus ((repeat (obtain ⟨hq,hV⟩:=hV;(try replace hq:_=_:=hq)));first | exact want_no rfl rfl rfl (by assumption) rfl | exact want_undef rfl rfl rfl (by assumption)))))
      all_goals first
       | (refine Steps.call (fun _ v=>v=.bool mb) rfl (fun _ _ _ _ h=>h) (fun f w' hR hV=>⟨?_,?_⟩) ?_;(focus (obtain ⟨h18,_,_,_⟩:=hV;replace h18:f 18=_:=h18;exact want_yes (t:=47) rfl (by kernel_rfl) rfl h18));(focus (obtain ⟨h18,h21,h25,_⟩:=hV;replace h18:f 18=_:=h18;replace h21:f 21=_:=h21;replace h25:f 25=_:=h25;obtain ⟨x1,x2,c0,c1⟩:=HX.out _ hR;go_simp;go_at_call 14;refine (HIN.out _ hR).mono ?_;rintro e w2 ⟨rfl,hk2⟩;exact StepPost.of _ rfl rfl hk2)))
       | (refine Steps.skip rfl (fun f w' hR hV=>?_) ?_;(focus (obtain ⟨h18,_,_,_⟩:=hV;replace h18:f 18=_:=h18;first | exact want_no (t:=47) rfl (by kernel_rfl) rfl h18 rfl | exact want_undef (t:=47) rfl (by kernel_rfl) rfl h18)))
      (all_goals (refine Steps.pure (v:=?_) Keeps.refl rfl (fun f w' hR hV=>⟨?_,?_⟩) ?_;rotate_left;(focus rfl);(focus ((repeat (obtain ⟨hq,hV⟩:=hV;(try replace hq:_=_:=hq)));obtain ⟨x1,x2,c0,c1⟩:=HX.out _ hR;go_simp;all_goals (try with_reducible rfl)))))
      all_goals (refine Steps.done [27] (by kernel_rfl) rfl (fun f wq hR hV=>?_);obtain ⟨h27,_⟩:=hV;replace h27:f 27=_:=h27;simp only [h27])
      go_wp2_with fail
      (refine bodyPost_ret (results_tmp3 rfl _ _ _) rfl ?_)
      rw [HB.out]
      exact ⟨rfl,HWZ.out.trans ((Keeps.refl wz).drew.trans hR)⟩
  ·have HG:=Lib.hid (sideR_good (sideE_good (es:=es) (L:=L) (x:=(fe,fp)) (fun j hj=>HA.out j hj (by omega)) (fun h=>HZ.out (by omega))) (nodup_take fun j hj=>HN.out j hj (by omega)))
   by_cases h1:1≤L.length
   ·have e1:decide ((1:Int)≤(L.length:Int))=true:=decide_eq_true (by omega)
    by_cases h2:L.length≤12
    ·have e2:decide ((L.length:Int)≤12)=true:=decide_eq_true (by omega)
     have HD:Hid (decide (1≤L.length∧L.length≤12)=true):=Lib.hid (decide_eq_true ⟨h1,h2⟩)
     clear h1 h2
     go_wp2_with fail
     (refine bodyPost_ret (results_tmp3 rfl _ _ _) rfl ?_)
     rw [HG.out,HD.out]
     exact ⟨rfl,HW1.out.trans HW.out⟩
    ·have e2:decide ((L.length:Int)≤12)=false:=decide_eq_false (by omega)
     have HD:Hid (decide (1≤L.length∧L.length≤12)=false):=Lib.hid (decide_eq_false (fun h=>h2 h.2))
     clear h1 h2
     go_wp2_with fail
     (refine bodyPost_ret (results_tmp3 rfl _ _ _) rfl ?_)
     rw [HG.out,HD.out]
     exact ⟨rfl,HW1.out.trans HW.out⟩
   ·have e1:decide ((1:Int)≤(L.length:Int))=false:=decide_eq_false (by omega)
    have HD:Hid (decide (1≤L.length∧L.length≤12)=false):=Lib.hid (decide_eq_false (fun h=>h1 h.1))
    clear h1
    go_wp2_with fail
    (refine bodyPost_ret (results_tmp3 rfl _ _ _) rfl ?_)
    rw [HG.out,HD.out]
    exact ⟨rfl,HW1.out.trans HW.out⟩
end Go.Proofs.YtoaidbhiciaeaaaGreat

end
