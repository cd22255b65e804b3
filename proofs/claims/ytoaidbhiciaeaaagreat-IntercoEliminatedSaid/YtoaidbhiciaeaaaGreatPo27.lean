/- Walks and plain facts that the claim rests on (PFindW). No condition. -/
import Derived.Test.YtoaidbhiciaeaaaGreatPo26
set_option linter.unusedSimpArgs false
set_option linter.unusedVariables false
set_option maxHeartbeats 16000000
section
namespace Go.Proofs.YtoaidbhiciaeaaaGreat
open Go.RowKit
def jrnV (x:Jrn) (v:Value):Value:=.agg #[.int .i64 x.id,.int .i64 x.ent,.int .i64 x.date,.int .i64 x.kind,.int .i64 x.of_,.string x.text,v]
def lnV (l:Ln):Value:=.agg #[.int .i64 l.acc,.int .i64 l.amt,.int .i64 l.ptn]
def Jrn.zero:Jrn:=⟨0,0,0,0,0,⟨#[]⟩,[]⟩
def Ln.zero:Ln:=⟨0,0,0⟩
def FindOut (w:World) (x:Jrn) (l:Ln) (ok:Bool) (e:Ending) (w':World):Prop:=∃ ao cap b o,e=.returned (.tuple #[jrnV x (.slice ao x.lines.length cap),lnV l,.bool ok])∧Recs w' 3 Ln.cells ao x.lines cap b o∧Keeps w w'
def findS (es:List JV) (k:Nat) (l:Int):Jrn × Ln × Bool:=match es[k]? with
 | none=>(Jrn.zero,Ln.zero,false)
 | some y=>match lineAt y.x.lines l with
  | none=>(Jrn.zero,Ln.zero,false)
  | some n=>(y.x,n,true)
theorem findS_none {es:List JV} {k:Nat} {l:Int} (h:¬ k < es.length):findS es k l=(Jrn.zero,Ln.zero,false):=by unfold findS;rw [List.getElem?_eq_none (by omega)]
theorem findS_bad {es:List JV} {k:Nat} {l:Int} (h:k < es.length) (hl:lineAt es[k].x.lines l=none):findS es k l=(Jrn.zero,Ln.zero,false):=by unfold findS;rw [List.getElem?_eq_getElem h];simp only [hl]
theorem findS_some {es:List JV} {k:Nat} {l:Int} {n:Ln} (h:k < es.length) (hl:lineAt es[k].x.lines l=some n):findS es k l=(es[k].x,n,true):=by unfold findS;rw [List.getElem?_eq_getElem h];simp only [hl]
theorem box_there (w:World) (t:TypeId) (vs:List Value) (n:Nat) (hn:vs.length=n):(w.alloc (.cells vs.toArray t)).there w.heap.size 0 n:=by subst hn;exact there_newP w t vs
theorem wpList_mid {w:World} {ops:Array Oper} {rest:List Oper} {op:Oper} {a:Act} {Q:Exit→Act→World→Prop} (hgd:op.guard=none) (ty:TypeId) (x y:Operand) (ho:op.op=.store ty x y) (g n:Nat) (cs:List Value) (hn:cs.length=n)
  (hx:a.eval x=.pointer (some ⟨g,0,none⟩)) (hy:a.eval y=.agg cs.toArray) (ht:w.there g 0 n) (hi:(Tryz.prog.info? ty).map (·.size)=some n) (h1:∀ v∈cs,v.oneCell'=true)
  (h:∀ w',w.setCells g 0 cs=w'→wpList Tryz.prog ops Q rest (a.put op.dst undef) w'):wpList Tryz.prog ops Q (op :: rest) a w:=by
 subst hn
 exact wpList_store_mid hgd ty x y ho g 0 cs.toArray hx hy ht hi (all_oneCell_toArray h1) (h _ rfl)
structure FBox (W:World) (N:Nat) (re rl:Int):Prop where
 r0:W.cell? ⟨N+1,0,none⟩=some (.int .i64 re)
 r1:W.cell? ⟨N+1,1,none⟩=some (.int .i64 rl)
 t4:W.there (N+1+1) 0 7
 t5:W.there (N+1+1+1) 0 3
 size:N+1+1+1+1≤W.heap.size
theorem FBox.keeps {W W':World} {N:Nat} {re rl:Int} (h:FBox W N re rl) (k:Keeps W W'):FBox W' N re rl:=⟨k.cell h.r0,k.cell h.r1,there_keeps h.t4 k,there_keeps h.t5 k,Nat.le_trans h.size k.size⟩
theorem fbox_new (W1:World) (N:Nat) (hz:W1.heap.size=N+1) (re rl:Int):FBox (((W1.alloc (.cells #[.int .i64 re,.int .i64 rl] 51)).alloc (.cells #[.int .i64 0,.int .i64 0,.int .i64 0,.int .i64 0,.int .i64 0,.string ⟨#[]⟩,.slice none 0 0] 56)).alloc (.cells #[.int .i64 0,.int .i64 0,.int .i64 0] 103)) N re rl:=by
 refine ⟨?_,?_,?_,?_,by simp;omega⟩
 ·rw [← hz];go_simp
 ·rw [← hz];go_simp
 ·have:=box_there (W1.alloc (.cells #[.int .i64 re,.int .i64 rl] 51)) 56 [.int .i64 0,.int .i64 0,.int .i64 0,.int .i64 0,.int .i64 0,.string ⟨#[]⟩,.slice none 0 0] 7 rfl
  rw [World.size_alloc,hz] at this
  exact there_keeps this ((Keeps.refl _).alloc _)
 ·have:=box_there ((W1.alloc (.cells #[.int .i64 re,.int .i64 rl] 51)).alloc (.cells #[.int .i64 0,.int .i64 0,.int .i64 0,.int .i64 0,.int .i64 0,.string ⟨#[]⟩,.slice none 0 0] 56)) 103 [.int .i64 0,.int .i64 0,.int .i64 0] 3 rfl
  rw [World.size_alloc,World.size_alloc,hz] at this
  exact this
theorem there_setCells {w:World} {b o n:Nat} (h:w.there b o n) (B:Nat) (vs:List Value) (p:Nat) (hb:b≠B):(w.setCells B p vs).there b o n:=fun j hj=>by
 obtain ⟨h1,h2⟩:=h j hj
 exact ⟨by rw [World.cell?_setCells_out B vs p w ⟨b,o+j,none⟩ (fun e=>absurd e hb)];exact h1,by rw [World.frozen?_setCells];exact h2⟩
theorem find_end {fn:Func} (hres:fn.results=#[.cell 4 56,.cell 5 103,.tmp 6]) (w W:World) (N:Nat) (x:Jrn) (l:Ln) (ok:Bool) (ao:Option Addr) (cap b o:Nat) (hs:Recs W 3 Ln.cells ao x.lines cap b o) (hb4:b≠N+1+1) (hb5:b≠N+1+1+1)
  (ht4:W.there (N+1+1) 0 7) (ht5:W.there (N+1+1+1) 0 3) (hk:Keeps w W) (hN:w.heap.size=N) (tmps:Array Value) (hp:tmps.getD 4 undef=.pointer (some ⟨N+1+1,0,none⟩)) (hq:tmps.getD 5 undef=.pointer (some ⟨N+1+1+1,0,none⟩)) (h6:tmps.getD 6 undef=.bool ok)
  (w5 w6:World) (h5:W.setCells (N+1+1) 0 [.int .i64 x.id,.int .i64 x.ent,.int .i64 x.date,.int .i64 x.kind,.int .i64 x.of_,.string x.text,.slice ao x.lines.length cap]=w5) (h6':w5.setCells (N+1+1+1) 0 l.cells=w6) :
  bodyPost Tryz.prog fn (FindOut w x l ok) .ret ⟨tmps,[]⟩ w6:=by
 subst h5 h6' hN
 refine bodyPost_ret (results_two hres tmps _ (w.heap.size+1+1) (w.heap.size+1+1+1) [.int .i64 x.id,.int .i64 x.ent,.int .i64 x.date,.int .i64 x.kind,.int .i64 x.of_,.string x.text,.slice ao x.lines.length cap] l.cells _ _ hp
  (range_setCells (World.rangeAt_setCells_same _ _ _ _ ht4) (by omega) _) Tryz.underlying56 rfl enSize hq (World.rangeAt_setCells_same _ _ _ _ (there_setCells ht5 _ _ _ (by omega))) Tryz.underlying103 rfl lnSize) rfl ?_
 rw [h6]
 exact ⟨ao,cap,b,o,rfl,sl_setCells (sl_setCells hs hb4 _ _) hb5 _ _,keeps_setCellsP (by omega) _ _ _ (keeps_setCellsP (by omega) _ _ _ hk)⟩
set_option maxRecDepth 100000 in
theorem pfind_any (bv:List Value) (es:List JV) (ms:List MV) (re rl:Int) (k:Nat) (hF:FstE es re k) (w:World) (H:Bks w bv es ms) (hm:∀ e∈es,e.x.lines.length≤8) :
  Calls Tryz.prog 151 #[.agg bv.toArray,.agg #[.int .i64 re,.int .i64 rl]] w (FindOut w (findS es k rl).1 (findS es k rl).2.1 (findS es k rl).2.2):=by
 obtain ⟨ao1,cap1,b1,o1,he1,hj⟩:=H.ents
 have HJ:=Lib.hid hj
 have HM:=Lib.hid hm
 have h1:=Sl.le hj.row
 have h2:=Sl.cap hj.row
 have hrg:=box_range w bv 36
 have c21:=hrg 21 _ he1
 simp only [Nat.zero_add] at c21
 have hk0:Keeps w (w.alloc (.cells bv.toArray 36)):=(Keeps.refl w).alloc _
 have hz0:(w.alloc (.cells bv.toArray 36)).heap.size=w.heap.size+1:=by simp
 obtain ⟨W1,hW1⟩:∃ W1,w.alloc (.cells bv.toArray 36)=W1:=⟨_,rfl⟩
 rw [hW1] at c21 hk0 hz0
 have HB4:=Lib.hid (fbox_new W1 w.heap.size hz0 re rl)
 have HK4:Hid (Keeps w (((W1.alloc (.cells #[.int .i64 re,.int .i64 rl] 51)).alloc (.cells #[.int .i64 0,.int .i64 0,.int .i64 0,.int .i64 0,.int .i64 0,.string ⟨#[]⟩,.slice none 0 0] 56)).alloc (.cells #[.int .i64 0,.int .i64 0,.int .i64 0] 103))):=Lib.hid (((hk0.alloc _).alloc _).alloc _)
 have C4:Hid ((((W1.alloc (.cells #[.int .i64 re,.int .i64 rl] 51)).alloc (.cells #[.int .i64 0,.int .i64 0,.int .i64 0,.int .i64 0,.int .i64 0,.string ⟨#[]⟩,.slice none 0 0] 56)).alloc (.cells #[.int .i64 0,.int .i64 0,.int .i64 0] 103)).cell? ⟨w.heap.size,21,none⟩=some (.slice ao1 es.length cap1)):=Lib.hid (((((Keeps.refl W1).alloc _).alloc _).alloc _).cell c21)
 have hle:=hF.2.1
 have HFE:=Lib.hid hF
 have HI:Hid (∀ W B,Keeps w W→W.cell? ⟨B,0,none⟩=some (.int .i64 re)→Calls Tryz.prog 174 #[.slice ao1 es.length cap1,.func (.func 175) #[] #[.pointer (some ⟨B,0,none⟩)]] W
   fun en w'=>en=.returned (.int .i64 (if k < es.length then (k:Int) else -1))∧Keeps W w'):=Lib.hid (fun W B hW hc=>(idxE_any es ao1 cap1 b1 o1 B re W (hj.keeps hW) hc).mono fun en w' ⟨m,h3,h4,h5⟩=>by
  obtain rfl:=h3.unique hF
  exact ⟨h4,h5⟩)
 clear hj hm hrg H hk0 hF
 by_cases hlt:k < es.length
 ·rw [if_pos hlt] at HI
  obtain ⟨y,hy⟩:∃ y,es[k]=y:=⟨_,rfl⟩
  have ek:decide ((k:Int) < 0)=false:=by simp
  have hyl:y.x.lines.length≤8:=by rw [← hy];exact HM.out _ (List.getElem_mem ..)
  have hix:=Sl.at HJ.out.row Tryz.underlying30 Tryz.sizeOf56 k hlt
  have HR:Hid (∀ W,Keeps w W→W.cell? ⟨b1,o1+k * 7+6,none⟩=some (.slice y.a y.x.lines.length y.c)):=Lib.hid (fun W hW=>(HJ.out.row.keeps hW).cell JV.len k hlt 6 _ (by rw [hy];rfl))
  by_cases hn:rl < 0
  ·have en:decide (rl < 0)=true:=by simpa using hn
   have HQ:Hid (findS es k rl=(Jrn.zero,Ln.zero,false)):=Lib.hid (findS_bad hlt (by unfold lineAt;rw [if_pos hn]))
   clear hn hy
   go_enter Tryz.func151,Tryz.ntmps151
   go_wp2_with (go_at_call 174;(refine (HI.out _ (w.heap.size+1) HK4.out HB4.out.r0).mono ?_);rintro en w2 ⟨rfl,hk2⟩;have c21b:=hk2.cell C4.out;have r1b:=(HB4.out.keeps hk2).r1;have HK2:=Lib.hid (HK4.out.trans hk2);have HB2:=Lib.hid (HB4.out.keeps hk2);have hz2:=(HB4.out.keeps hk2).size;clear hk2)
   have HX:Hid (∀ W,Keeps w2.drew W→W.cell? ⟨w.heap.size,21,none⟩=some (.slice ao1 es.length cap1)∧W.cell? ⟨w.heap.size+1,1,none⟩=some (.int .i64 rl)∧W.cell? ⟨b1,o1+k * 7+6,none⟩=some (.slice y.a y.x.lines.length y.c)):=Lib.hid (fun W hW=>⟨hW.cell c21b,hW.cell r1b,(HR.out _ (HK2.out.drew.trans hW))⟩)
   clear c21b r1b
   refine wp_region_steps (A:=?_) Keeps [some 13,some 14,some 15,some 16,some 17,some 18,some 19,some 20,some 21,some 22,some 23,some 24,some 25,some 26,some 27,some 28,some 29,some 30,some 31] [[],[0],[1],[2],[2,3],[2,4],[2,5],[6],[7],[7,8],[7],[7,10],[7],[7,11,12],[7,13],[7,14],[7,15],[7,9,16],[7,17]] 19 (by kernel_rfl) (by kernel_rfl) (by kernel_rfl) (by kernel_rfl) (by kernel_rfl) (by kernel_rfl) Keeps.refl (fun _ _ _=>Keeps.trans) ?_ ?_
   rotate_left
   ·intro f;simp only [putL,Act.put,List.setIfInBounds_toArray,List.set_cons_zero,List.set_cons_succ,Nat.zero_add,Nat.reduceAdd];exact rfl
   iterate 19 (all_goals first
    | (refine Steps.pure (v:=?_) Keeps.refl rfl (fun f w' hR hV=>⟨?_,?_⟩) ?_;rotate_left;(focus ((repeat (obtain ⟨hq,hV⟩:=hV;(try replace hq:_=_:=hq)));first | exact want_yes rfl rfl rfl (by assumption) | rfl));(focus ((repeat (obtain ⟨hq,hV⟩:=hV;(try replace hq:_=_:=hq)));obtain ⟨x21,x1,x6⟩:=HX.out _ hR;go_simp;all_goals (try with_reducible rfl))))
    | (refine Steps.skip rfl (fun f w' hR hV=>?_) ?_;(focus ((repeat (obtain ⟨hq,hV⟩:=hV;(try replace hq:_=_:=hq)));first | exact want_no rfl rfl rfl (by assumption) rfl | exact want_undef rfl rfl rfl (by assumption)))))
   all_goals (refine Steps.done [18] (by kernel_rfl) rfl (fun f wq hR hV=>?_);obtain ⟨h18,_⟩:=hV;replace h18:f 18=_:=h18;simp only [h18])
   have HBQ:=Lib.hid (HB2.out.keeps ((Keeps.refl w2).drew.trans hR))
   have HKQ:=Lib.hid (HK2.out.trans ((Keeps.refl w2).drew.trans hR))
   clear hR
   go_wp2_with (first | (refine wpList_mid rfl 56 (.tmp 4) (.tmp 32) rfl (w.heap.size+1+1) 7 [.int .i64 0,.int .i64 0,.int .i64 0,.int .i64 0,.int .i64 0,.string ⟨#[]⟩,.slice none 0 0] rfl rfl rfl HBQ.out.t4 enSize (JV.one ⟨Jrn.zero,none,0,0,0⟩) ?_;intro w5 hw5) | (refine wpList_mid rfl 103 (.tmp 5) (.tmp 33) rfl (w.heap.size+1+1+1) 3 [.int .i64 0,.int .i64 0,.int .i64 0] rfl rfl rfl (by rw [← hw5];exact there_setCells HBQ.out.t5 _ _ _ (by omega)) lnSize (Ln.one Ln.zero) ?_;intro w6 hw6))
   rw [HQ.out]
   exact find_end rfl w wq w.heap.size Jrn.zero Ln.zero false none 0 0 0 (Sl.nil _ _) (by omega) (by omega) HBQ.out.t4 HBQ.out.t5 HKQ.out rfl _ rfl rfl rfl _ _ hw5 hw6
  ·have en:decide (rl < 0)=false:=by simpa using hn
   obtain ⟨n,hnn⟩:∃ n:Nat,rl=(n:Int):=⟨rl.toNat,by omega⟩
   subst hnn
   by_cases hnl:n < y.x.lines.length
   ·have e8:decide ((y.x.lines.length:Int)≤(n:Int))=false:=by simp;omega
    have HQ:Hid (findS es k n=(y.x,y.x.lines[n],true)):=Lib.hid (by rw [findS_some (n:=y.x.lines[n]) hlt (by rw [hy];unfold lineAt;rw [if_neg hn];simp [hnl]),hy])
    clear hn
    go_enter Tryz.func151,Tryz.ntmps151
    go_wp2_with (go_at_call 174;(refine (HI.out _ (w.heap.size+1) HK4.out HB4.out.r0).mono ?_);rintro en w2 ⟨rfl,hk2⟩;have c21b:=hk2.cell C4.out;have r1b:=(HB4.out.keeps hk2).r1;have HK2:=Lib.hid (HK4.out.trans hk2);have HB2:=Lib.hid (HB4.out.keeps hk2);have hz2:=(HB4.out.keeps hk2).size;clear hk2)
    have HX:Hid (∀ W,Keeps w2.drew W→W.cell? ⟨w.heap.size,21,none⟩=some (.slice ao1 es.length cap1)∧W.cell? ⟨w.heap.size+1,1,none⟩=some (.int .i64 n)∧W.cell? ⟨b1,o1+k * 7+6,none⟩=some (.slice y.a y.x.lines.length y.c)):=Lib.hid (fun W hW=>⟨hW.cell c21b,hW.cell r1b,(HR.out _ (HK2.out.drew.trans hW))⟩)
    refine wp_region_steps (A:=?_) Keeps [some 13,some 14,some 15,some 16,some 17,some 18,some 19,some 20,some 21,some 22,some 23,some 24,some 25,some 26,some 27,some 28,some 29,some 30,some 31] [[],[0],[1],[2],[2,3],[2,4],[2,5],[6],[7],[7,8],[7],[7,10],[7],[7,11,12],[7,13],[7,14],[7,15],[7,9,16],[7,17]] 19 (by kernel_rfl) (by kernel_rfl) (by kernel_rfl) (by kernel_rfl) (by kernel_rfl) (by kernel_rfl) Keeps.refl (fun _ _ _=>Keeps.trans) ?_ ?_
    rotate_left
    ·intro f;simp only [putL,Act.put,List.setIfInBounds_toArray,List.set_cons_zero,List.set_cons_succ,Nat.zero_add,Nat.reduceAdd];exact rfl
    iterate 19 (all_goals first
     | (refine Steps.pure (v:=?_) Keeps.refl rfl (fun f w' hR hV=>⟨?_,?_⟩) ?_;rotate_left;(focus ((repeat (obtain ⟨hq,hV⟩:=hV;(try replace hq:_=_:=hq)));first | exact want_yes rfl rfl rfl (by assumption) | rfl));(focus ((repeat (obtain ⟨hq,hV⟩:=hV;(try replace hq:_=_:=hq)));obtain ⟨x21,x1,x6⟩:=HX.out _ hR;go_simp;all_goals (try with_reducible rfl))))
     | (refine Steps.skip rfl (fun f w' hR hV=>?_) ?_;(focus ((repeat (obtain ⟨hq,hV⟩:=hV;(try replace hq:_=_:=hq)));first | exact want_no rfl rfl rfl (by assumption) rfl | exact want_undef rfl rfl rfl (by assumption)))))
    all_goals (refine Steps.done [18] (by kernel_rfl) rfl (fun f wq hR hV=>?_);obtain ⟨h18,_⟩:=hV;replace h18:f 18=_:=h18;simp only [h18])
    have c21q:=hR.cell (show w2.drew.cell? ⟨w.heap.size,21,none⟩=some (.slice ao1 es.length cap1) from c21b)
    have HBQ:=Lib.hid (HB2.out.keeps ((Keeps.refl w2).drew.trans hR))
    have HKQ:=Lib.hid (HK2.out.trans ((Keeps.refl w2).drew.trans hR))
    clear hR c21b r1b
    have hr:=HJ.out.row.keeps HKQ.out
    have d0:=hr.cell JV.len k hlt 0 (.int .i64 y.x.id) (by rw [hy];rfl)
    rw [Nat.add_zero] at d0
    have d1:=hr.cell JV.len k hlt 1 (.int .i64 y.x.ent) (by rw [hy];rfl)
    have d2:=hr.cell JV.len k hlt 2 (.int .i64 y.x.date) (by rw [hy];rfl)
    have d3:=hr.cell JV.len k hlt 3 (.int .i64 y.x.kind) (by rw [hy];rfl)
    have d4:=hr.cell JV.len k hlt 4 (.int .i64 y.x.of_) (by rw [hy];rfl)
    have d5:=hr.cell JV.len k hlt 5 (.string y.x.text) (by rw [hy];rfl)
    have d6:=hr.cell JV.len k hlt 6 (.slice y.a y.x.lines.length y.c) (by rw [hy];rfl)
    have HCL:Hid (∀ W,Keeps w W→Calls Tryz.prog 176 #[.slice y.a y.x.lines.length y.c] W fun e w'=>∃ v,e=.returned v∧w'.ownsRow W.heap.size 103 3 v y.x.lines.length (y.x.lines.flatMap Ln.cells)∧Keeps W w'):=Lib.hid (fun W hW=>cloneL_any y.a y.x.lines y.c y.b y.o W (by rw [← hy];exact (HJ.out.lines _ (List.getElem_mem ..)).keeps hW) (by omega))
    clear hr hy
    have hzq:=HBQ.out.size
    go_upto_region 6 with (go_at_call 176;refine (HCL.out _ (HKQ.out.alloc _)).mono ?_;rintro e w5 ⟨v5,rfl,ho5,hk5⟩;obtain ⟨ao5,cap5,b5,rfl,hs5⟩:=Sl.own ho5;have hb5:=own_block ho5 hs5;have x0:=hk5.cell (p:=⟨wq.heap.size,0,none⟩) (v:=.int .i64 y.x.id) (by go_simp);have x1:=hk5.cell (p:=⟨wq.heap.size,1,none⟩) (v:=.int .i64 y.x.ent) (by go_simp);have x2:=hk5.cell (p:=⟨wq.heap.size,2,none⟩) (v:=.int .i64 y.x.date) (by go_simp);have x3:=hk5.cell (p:=⟨wq.heap.size,3,none⟩) (v:=.int .i64 y.x.kind) (by go_simp);have x4:=hk5.cell (p:=⟨wq.heap.size,4,none⟩) (v:=.int .i64 y.x.of_) (by go_simp);have x5:=hk5.cell (p:=⟨wq.heap.size,5,none⟩) (v:=.string y.x.text) (by go_simp);have x6:=hk5.cell (p:=⟨wq.heap.size,6,none⟩) (v:=.slice y.a y.x.lines.length y.c) (by go_simp);have f6:=hk5.frz (p:=⟨wq.heap.size,6,none⟩) (v:=.slice y.a y.x.lines.length y.c) (by go_simp) (by go_simp))
    simp only [World.size_alloc] at hb5
    obtain ⟨C,hC⟩:∃ C:List Value,C=[.int .i64 y.x.id,.int .i64 y.x.ent,.int .i64 y.x.date,.int .i64 y.x.kind,.int .i64 y.x.of_,.string y.x.text,.slice ao5 y.x.lines.length cap5]:=⟨_,rfl⟩
    obtain ⟨l,hl⟩:∃ l,y.x.lines[n]=l:=⟨_,rfl⟩
    have hbq:b5≠wq.heap.size:=by have:=hb5 (by omega);omega
    have hrow:Recs (w5.setCell ⟨wq.heap.size,6,none⟩ (.slice ao5 y.x.lines.length cap5)) 3 Ln.cells ao5 y.x.lines cap5 b5 0:=sl_setCells hs5 hbq [.slice ao5 y.x.lines.length cap5] 6
    have hix5:=Sl.at hrow Tryz.underlying54 Tryz.sizeOf103 n hnl
    have k0:=hrow.cell Ln.len n hnl 0 (.int .i64 l.acc) (by rw [hl];rfl)
    have k1:=hrow.cell Ln.len n hnl 1 (.int .i64 l.amt) (by rw [hl];rfl)
    have k2:=hrow.cell Ln.len n hnl 2 (.int .i64 l.ptn) (by rw [hl];rfl)
    simp only [Nat.add_zero,Nat.zero_add] at k0 k1 k2 hix5
    have HB5:=HBQ.out.keeps (((Keeps.refl wq).alloc _).trans hk5)
    have hk6:Keeps w (w5.setCell ⟨wq.heap.size,6,none⟩ (.slice ao5 y.x.lines.length cap5)):=((HKQ.out.alloc _).trans hk5).setCell (p:=⟨wq.heap.size,6,none⟩) (by have:=HKQ.out.size;simpa using this) _
    have q0:(w5.setCell ⟨wq.heap.size,6,none⟩ (.slice ao5 y.x.lines.length cap5)).cell? ⟨wq.heap.size,0,none⟩=some (.int .i64 y.x.id):=by go_simp
    have q1:(w5.setCell ⟨wq.heap.size,6,none⟩ (.slice ao5 y.x.lines.length cap5)).cell? ⟨wq.heap.size,1,none⟩=some (.int .i64 y.x.ent):=by go_simp
    have q2:(w5.setCell ⟨wq.heap.size,6,none⟩ (.slice ao5 y.x.lines.length cap5)).cell? ⟨wq.heap.size,2,none⟩=some (.int .i64 y.x.date):=by go_simp
    have q3:(w5.setCell ⟨wq.heap.size,6,none⟩ (.slice ao5 y.x.lines.length cap5)).cell? ⟨wq.heap.size,3,none⟩=some (.int .i64 y.x.kind):=by go_simp
    have q4:(w5.setCell ⟨wq.heap.size,6,none⟩ (.slice ao5 y.x.lines.length cap5)).cell? ⟨wq.heap.size,4,none⟩=some (.int .i64 y.x.of_):=by go_simp
    have q5:(w5.setCell ⟨wq.heap.size,6,none⟩ (.slice ao5 y.x.lines.length cap5)).cell? ⟨wq.heap.size,5,none⟩=some (.string y.x.text):=by go_simp
    have q6:(w5.setCell ⟨wq.heap.size,6,none⟩ (.slice ao5 y.x.lines.length cap5)).cell? ⟨wq.heap.size,6,none⟩=some (.slice ao5 y.x.lines.length cap5):=by go_simp
    have q7:(w5.setCell ⟨wq.heap.size,6,none⟩ (.slice ao5 y.x.lines.length cap5)).cell? ⟨w.heap.size+1,1,none⟩=some (.int .i64 n):=by
     have:=HB5.r1
     rw [World.cell?_setCell_other _ _ _ _ (by simp)];exact this
    have ht4:=there_set (vs:=[.slice ao5 y.x.lines.length cap5]) (B:=wq.heap.size) (p:=6) HB5.t4
    have ht5:=there_set (vs:=[.slice ao5 y.x.lines.length cap5]) (B:=wq.heap.size) (p:=6) HB5.t5
    change (w5.setCell ⟨wq.heap.size,6,none⟩ (.slice ao5 y.x.lines.length cap5)).there _ _ _ at ht4 ht5
    obtain ⟨w6,hw6⟩:∃ w6,w5.setCell ⟨wq.heap.size,6,none⟩ (.slice ao5 y.x.lines.length cap5)=w6:=⟨_,rfl⟩
    rw [hw6] at hrow k0 k1 k2 hk6 q0 q1 q2 q3 q4 q5 q6 q7 ht4 ht5 ⊢
    have HROW:=Lib.hid hrow
    have HK6:=Lib.hid hk6
    have HX6:Hid (∀ W,RS (w.heap.size+1+1) (w.heap.size+1+1+1) 7 3 C l.cells w6.drew W→(W.cell? ⟨wq.heap.size,0,none⟩=some (.int .i64 y.x.id)∧W.cell? ⟨wq.heap.size,1,none⟩=some (.int .i64 y.x.ent)∧W.cell? ⟨wq.heap.size,2,none⟩=some (.int .i64 y.x.date)∧W.cell? ⟨wq.heap.size,3,none⟩=some (.int .i64 y.x.kind)∧W.cell? ⟨wq.heap.size,4,none⟩=some (.int .i64 y.x.of_)∧W.cell? ⟨wq.heap.size,5,none⟩=some (.string y.x.text)∧W.cell? ⟨wq.heap.size,6,none⟩=some (.slice ao5 y.x.lines.length cap5))∧W.cell? ⟨w.heap.size+1,1,none⟩=some (.int .i64 n)∧
      W.cell? ⟨b5,n * 3,none⟩=some (.int .i64 l.acc)∧W.cell? ⟨b5,n * 3+1,none⟩=some (.int .i64 l.amt)∧W.cell? ⟨b5,n * 3+2,none⟩=some (.int .i64 l.ptn)∧W.there (w.heap.size+1+1) 0 7∧W.there (w.heap.size+1+1+1) 0 3):=Lib.hid (fun W hW=>by
     have hc:∀ p:Addr,p.block≠w.heap.size+1+1→p.block≠w.heap.size+1+1+1→∀ v,w6.cell? p=some v→W.cell? p=some v:=fun p h1 h2 v hv=>hW.cell p h1 h2 v hv
     have hb55:=hb5 (by omega)
     refine ⟨⟨hc _ ?_ ?_ _ q0,hc _ ?_ ?_ _ q1,hc _ ?_ ?_ _ q2,hc _ ?_ ?_ _ q3,hc _ ?_ ?_ _ q4,hc _ ?_ ?_ _ q5,hc _ ?_ ?_ _ q6⟩,hc _ ?_ ?_ _ q7,hc _ ?_ ?_ _ k0,hc _ ?_ ?_ _ k1,hc _ ?_ ?_ _ k2,hW.t1 ht4,hW.t2 ht5⟩ <;> (simp only;omega))
    clear q0 q1 q2 q3 q4 q5 q6 q7 k0 k1 k2 ht4 ht5 hrow hk6 x0 x1 x2 x3 x4 x5 x6 f6 hs5 ho5
    refine wp_region_steps (A:=?_) (RS (w.heap.size+1+1) (w.heap.size+1+1+1) 7 3 C l.cells) [some 43,some 44,some 45,some 46,some 47,some 48,some 49,none,none,some 6] [[],[],[1],[],[3],[2,4],[5],[0],[6],[]] 10 (by kernel_rfl) (by kernel_rfl) (by kernel_rfl) (by kernel_rfl) (by kernel_rfl) (by kernel_rfl) RS.refl (fun _ _ _=>RS.trans) ?_ ?_
    rotate_left
    ·intro f;simp only [putL,Act.put,List.setIfInBounds_toArray,List.set_cons_zero,List.set_cons_succ,Nat.zero_add,Nat.reduceAdd];exact rfl
    iterate 7 (refine Steps.pure (v:=?_) RS.refl rfl (fun f w' hR hV=>⟨?_,?_⟩) ?_;rotate_left;(focus rfl);(focus ((repeat (obtain ⟨hq,hV⟩:=hV;(try replace hq:_=_:=hq)));obtain ⟨⟨y0,y1,y2,y3,y4,y5,y6⟩,y7,m0,m1,m2,u4,u5⟩:=HX6.out _ hR;go_simp;all_goals (try with_reducible rfl))))
    refine Steps.call (fun W _=>W.rangeAt (w.heap.size+1+1) 0 C) rfl (fun _ _ _ k h=>k.r1 h) (fun f w' hR hV=>⟨?_,?_⟩) ?_
    ·(rfl)
    ·(obtain ⟨h0,_⟩:=hV;replace h0:f 0=_:=h0;obtain ⟨⟨y0,y1,y2,y3,y4,y5,y6⟩,y7,m0,m1,m2,u4,u5⟩:=HX6.out _ hR;exact wp_store_mid 56 (.tmp 4) (.tmp 43) rfl (w.heap.size+1+1) 0 C.toArray rfl (by rw [hC];exact h0) (by rw [hC];exact u4) (by rw [hC];exact enSize) (by rw [hC];exact all_oneCell_toArray (JV.one ⟨y.x,ao5,cap5,0,0⟩)) (StepPost.of _ rfl (World.rangeAt_setCells_same _ _ _ _ (by rw [hC];exact u4)) (RS.set1 (by omega) (by rw [hC];exact u4))))
    refine Steps.call (fun W _=>W.rangeAt (w.heap.size+1+1+1) 0 l.cells) rfl (fun _ _ _ k h=>k.r2 h) (fun f w' hR hV=>⟨?_,?_⟩) ?_
    ·(rfl)
    ·(obtain ⟨h6,_⟩:=hV;replace h6:f 6=_:=h6;obtain ⟨⟨y0,y1,y2,y3,y4,y5,y6⟩,y7,m0,m1,m2,u4,u5⟩:=HX6.out _ hR;exact wp_store_mid 103 (.tmp 5) (.tmp 49) rfl (w.heap.size+1+1+1) 0 l.cells.toArray rfl h6 u5 lnSize (all_oneCell_toArray (Ln.one l)) (StepPost.of _ rfl (World.rangeAt_setCells_same _ _ _ _ u5) (RS.set2 (by omega) u5)))
    (refine Steps.pure (v:=?_) RS.refl rfl (fun f w' hR hV=>⟨?_,?_⟩) ?_;rotate_left;(focus rfl);(focus ((repeat (obtain ⟨hq,hV⟩:=hV;(try replace hq:_=_:=hq)));obtain ⟨⟨y0,y1,y2,y3,y4,y5,y6⟩,y7,m0,m1,m2,u4,u5⟩:=HX6.out _ hR;go_simp;all_goals (try with_reducible rfl))))
    all_goals (refine Steps.done [7,8,9] (by kernel_rfl) rfl (fun f wz hR hV=>?_);obtain ⟨h7,h8,h9,_⟩:=hV;replace h7:wz.rangeAt (w.heap.size+1+1) 0 C:=h7;replace h8:wz.rangeAt (w.heap.size+1+1+1) 0 l.cells:=h8;replace h9:f 9=_:=h9;simp only [h9])
    go_wp2_with fail
    have hw:w.heap.size≤w.heap.size+1+1:=by omega
    refine bodyPost_ret (results_two rfl _ wz (w.heap.size+1+1) (w.heap.size+1+1+1) C l.cells _ _ rfl h7 Tryz.underlying56 rfl (by rw [hC];exact enSize) rfl h8 Tryz.underlying103 rfl lnSize) rfl ?_
    rw [HQ.out,hl]
    have hb55:=hb5 (by omega)
    refine ⟨ao5,cap5,b5,0,by rw [hC];rfl,⟨HROW.out.len,HROW.out.le,HROW.out.nocap,HROW.out.cap,HROW.out.addr,fun j u hu=>hR.cell _ ?_ ?_ _ (Sl.cell HROW.out j u hu)⟩,hR.keep w (by omega) (by omega) HK6.out.drew⟩ <;> (simp only;omega)
   ·have e8:decide ((y.x.lines.length:Int)≤(n:Int))=true:=by simp;omega
    have HQ:Hid (findS es k n=(Jrn.zero,Ln.zero,false)):=Lib.hid (findS_bad hlt (by rw [hy];unfold lineAt;rw [if_neg hn];simp;omega))
    clear hn hy
    go_enter Tryz.func151,Tryz.ntmps151
    go_wp2_with (go_at_call 174;(refine (HI.out _ (w.heap.size+1) HK4.out HB4.out.r0).mono ?_);rintro en w2 ⟨rfl,hk2⟩;have c21b:=hk2.cell C4.out;have r1b:=(HB4.out.keeps hk2).r1;have HK2:=Lib.hid (HK4.out.trans hk2);have HB2:=Lib.hid (HB4.out.keeps hk2);have hz2:=(HB4.out.keeps hk2).size;clear hk2)
    have HX:Hid (∀ W,Keeps w2.drew W→W.cell? ⟨w.heap.size,21,none⟩=some (.slice ao1 es.length cap1)∧W.cell? ⟨w.heap.size+1,1,none⟩=some (.int .i64 n)∧W.cell? ⟨b1,o1+k * 7+6,none⟩=some (.slice y.a y.x.lines.length y.c)):=Lib.hid (fun W hW=>⟨hW.cell c21b,hW.cell r1b,(HR.out _ (HK2.out.drew.trans hW))⟩)
    clear c21b r1b
    refine wp_region_steps (A:=?_) Keeps [some 13,some 14,some 15,some 16,some 17,some 18,some 19,some 20,some 21,some 22,some 23,some 24,some 25,some 26,some 27,some 28,some 29,some 30,some 31] [[],[0],[1],[2],[2,3],[2,4],[2,5],[6],[7],[7,8],[7],[7,10],[7],[7,11,12],[7,13],[7,14],[7,15],[7,9,16],[7,17]] 19 (by kernel_rfl) (by kernel_rfl) (by kernel_rfl) (by kernel_rfl) (by kernel_rfl) (by kernel_rfl) Keeps.refl (fun _ _ _=>Keeps.trans) ?_ ?_
    rotate_left
    ·intro f;simp only [putL,Act.put,List.setIfInBounds_toArray,List.set_cons_zero,List.set_cons_succ,Nat.zero_add,Nat.reduceAdd];exact rfl
    iterate 19 (all_goals first
     | (refine Steps.pure (v:=?_) Keeps.refl rfl (fun f w' hR hV=>⟨?_,?_⟩) ?_;rotate_left;(focus ((repeat (obtain ⟨hq,hV⟩:=hV;(try replace hq:_=_:=hq)));first | exact want_yes rfl rfl rfl (by assumption) | rfl));(focus ((repeat (obtain ⟨hq,hV⟩:=hV;(try replace hq:_=_:=hq)));obtain ⟨x21,x1,x6⟩:=HX.out _ hR;go_simp;all_goals (try with_reducible rfl))))
     | (refine Steps.skip rfl (fun f w' hR hV=>?_) ?_;(focus ((repeat (obtain ⟨hq,hV⟩:=hV;(try replace hq:_=_:=hq)));first | exact want_no rfl rfl rfl (by assumption) rfl | exact want_undef rfl rfl rfl (by assumption)))))
    all_goals (refine Steps.done [18] (by kernel_rfl) rfl (fun f wq hR hV=>?_);obtain ⟨h18,_⟩:=hV;replace h18:f 18=_:=h18;simp only [h18])
    have HBQ:=Lib.hid (HB2.out.keeps ((Keeps.refl w2).drew.trans hR))
    have HKQ:=Lib.hid (HK2.out.trans ((Keeps.refl w2).drew.trans hR))
    clear hR
    go_wp2_with (first | (refine wpList_mid rfl 56 (.tmp 4) (.tmp 32) rfl (w.heap.size+1+1) 7 [.int .i64 0,.int .i64 0,.int .i64 0,.int .i64 0,.int .i64 0,.string ⟨#[]⟩,.slice none 0 0] rfl rfl rfl HBQ.out.t4 enSize (JV.one ⟨Jrn.zero,none,0,0,0⟩) ?_;intro w5 hw5) | (refine wpList_mid rfl 103 (.tmp 5) (.tmp 33) rfl (w.heap.size+1+1+1) 3 [.int .i64 0,.int .i64 0,.int .i64 0] rfl rfl rfl (by rw [← hw5];exact there_setCells HBQ.out.t5 _ _ _ (by omega)) lnSize (Ln.one Ln.zero) ?_;intro w6 hw6))
    rw [HQ.out]
    exact find_end rfl w wq w.heap.size Jrn.zero Ln.zero false none 0 0 0 (Sl.nil _ _) (by omega) (by omega) HBQ.out.t4 HBQ.out.t5 HKQ.out rfl _ rfl rfl rfl _ _ hw5 hw6
 ·rw [if_neg hlt] at HI
  have HQ:Hid (findS es k rl=(Jrn.zero,Ln.zero,false)):=Lib.hid (findS_none hlt)
  go_enter Tryz.func151,Tryz.ntmps151
  go_wp2_with (go_at_call 174;(refine (HI.out _ (w.heap.size+1) HK4.out HB4.out.r0).mono ?_);rintro en w2 ⟨rfl,hk2⟩;have c21b:=hk2.cell C4.out;have r1b:=(HB4.out.keeps hk2).r1;have HK2:=Lib.hid (HK4.out.trans hk2);have HB2:=Lib.hid (HB4.out.keeps hk2);have hz2:=(HB4.out.keeps hk2).size;clear hk2)
  have HX:Hid (∀ W,Keeps w2.drew W→W.cell? ⟨w.heap.size,21,none⟩=some (.slice ao1 es.length cap1)∧W.cell? ⟨w.heap.size+1,1,none⟩=some (.int .i64 rl)):=Lib.hid (fun W hW=>⟨hW.cell c21b,hW.cell r1b⟩)
  clear c21b r1b
  refine wp_region_steps (A:=?_) Keeps [some 13,some 14,some 15,some 16,some 17,some 18,some 19,some 20,some 21,some 22,some 23,some 24,some 25,some 26,some 27,some 28,some 29,some 30,some 31] [[],[0],[1],[2],[2,3],[2,4],[2,5],[6],[7],[7,8],[7],[7,10],[7],[7,11,12],[7,13],[7,14],[7,15],[7,9,16],[7,17]] 19 (by kernel_rfl) (by kernel_rfl) (by kernel_rfl) (by kernel_rfl) (by kernel_rfl) (by kernel_rfl) Keeps.refl (fun _ _ _=>Keeps.trans) ?_ ?_
  rotate_left
  ·intro f;simp only [putL,Act.put,List.setIfInBounds_toArray,List.set_cons_zero,List.set_cons_succ,Nat.zero_add,Nat.reduceAdd];exact rfl
  iterate 19 (all_goals first
   | (refine Steps.pure (v:=?_) Keeps.refl rfl (fun f w' hR hV=>⟨?_,?_⟩) ?_;rotate_left;(focus ((repeat (obtain ⟨hq,hV⟩:=hV;(try replace hq:_=_:=hq)));first | exact want_yes rfl rfl rfl (by assumption) | rfl));(focus ((repeat (obtain ⟨hq,hV⟩:=hV;(try replace hq:_=_:=hq)));obtain ⟨x21,x1⟩:=HX.out _ hR;go_simp;all_goals (try with_reducible rfl))))
   | (refine Steps.skip rfl (fun f w' hR hV=>?_) ?_;(focus ((repeat (obtain ⟨hq,hV⟩:=hV;(try replace hq:_=_:=hq)));first | exact want_no rfl rfl rfl (by assumption) rfl | exact want_undef rfl rfl rfl (by assumption)))))
  all_goals (refine Steps.done [18] (by kernel_rfl) rfl (fun f wq hR hV=>?_);obtain ⟨h18,_⟩:=hV;replace h18:f 18=_:=h18;simp only [h18])
  have HBQ:=Lib.hid (HB2.out.keeps ((Keeps.refl w2).drew.trans hR))
  have HKQ:=Lib.hid (HK2.out.trans ((Keeps.refl w2).drew.trans hR))
  clear hR
  go_wp2_with (first | (refine wpList_mid rfl 56 (.tmp 4) (.tmp 32) rfl (w.heap.size+1+1) 7 [.int .i64 0,.int .i64 0,.int .i64 0,.int .i64 0,.int .i64 0,.string ⟨#[]⟩,.slice none 0 0] rfl rfl rfl HBQ.out.t4 enSize (JV.one ⟨Jrn.zero,none,0,0,0⟩) ?_;intro w5 hw5) | (refine wpList_mid rfl 103 (.tmp 5) (.tmp 33) rfl (w.heap.size+1+1+1) 3 [.int .i64 0,.int .i64 0,.int .i64 0] rfl rfl rfl (by rw [← hw5];exact there_setCells HBQ.out.t5 _ _ _ (by omega)) lnSize (Ln.one Ln.zero) ?_;intro w6 hw6))
  rw [HQ.out]
  exact find_end rfl w wq w.heap.size Jrn.zero Ln.zero false none 0 0 0 (Sl.nil _ _) (by omega) (by omega) HBQ.out.t4 HBQ.out.t5 HKQ.out rfl _ rfl rfl rfl _ _ hw5 hw6
end Go.Proofs.YtoaidbhiciaeaaaGreat

end
