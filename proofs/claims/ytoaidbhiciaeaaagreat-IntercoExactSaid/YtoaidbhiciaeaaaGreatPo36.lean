/- Walks and plain facts that the claim rests on (FulW, NestP). No condition. -/
import Derived.Test.YtoaidbhiciaeaaaGreatPo35
import Derived.Test.YtoaidbhiciaeaaaGreatPo31
import Derived.Test.YtoaidbhiciaeaaaGreatPo20
import Derived.Test.YtoaidbhiciaeaaaGreatPo15
set_option linter.unusedSimpArgs false
set_option linter.unusedVariables false
set_option maxHeartbeats 16000000
section
namespace Go.Proofs.YtoaidbhiciaeaaaGreat
open Go.RowKit
theorem Fin.cell {w:World} {B mb:Nat} {bv:List Value} {items:List Itm} {a b:Int} (h:Fin w B mb bv items a b) {j:Nat} {v:Value} (hv:bv[j]?=some v):w.cell? ⟨B,j,none⟩=some v:=by
 have:=h.box j v (by unfold finC;rw [List.getElem?_append_left (List.getElem?_eq_some_iff.1 hv).1];exact hv)
 rwa [Nat.zero_add] at this
theorem Fin.tail {w:World} {B mb:Nat} {bv:List Value} {items:List Itm} {a b:Int} (h:Fin w B mb bv items a b) (hl:bv.length=27):w.cell? ⟨B,27,none⟩=some (.map (some mb))∧w.cell? ⟨B,28,none⟩=some (.int .i64 a)∧w.cell? ⟨B,29,none⟩=some (.int .i64 b):=by
 have h1:=h.box 27 (.map (some mb)) (by unfold finC;rw [List.getElem?_append_right (by omega),hl];rfl)
 have h2:=h.box 28 (.int .i64 a) (by unfold finC;rw [List.getElem?_append_right (by omega),hl];rfl)
 have h3:=h.box 29 (.int .i64 b) (by unfold finC;rw [List.getElem?_append_right (by omega),hl];rfl)
 rw [Nat.zero_add] at h1 h2 h3
 exact ⟨h1,h2,h3⟩
theorem Fin.books {w:World} {B mb:Nat} {bv:List Value} {items:List Itm} {a b:Int} (h:Fin w B mb bv items a b):w.rangeAt B 0 bv:=fun j v hv=>by rw [Nat.zero_add];exact h.cell hv
def gcOf (g:Grp) (cv:Value):Gc:=⟨.string g.cur,.int .i64 g.y,.int .i64 g.m,.int .i64 g.n,cv,.int .i64 g.rl.r0,.int .i64 g.rl.r1,.int .i64 g.rl.r2,.int .i64 g.rl.r3,.int .i64 g.rl.r4,.int .i64 g.rl.r5,.int .i64 g.rl.r6,.int .i64 g.rl.r7,.int .i64 g.rl.r8,.int .i64 g.rl.r9,.int .i64 g.rl.r10,.int .i64 g.rl.r11,.int .i64 g.rl.r12,.int .i64 g.rl.r13,.int .i64 g.rl.r14⟩
theorem currP_any (g:Grp) (hs:List Hol) (d en:Int) (aoC:Option Addr) (capC:Nat) (aoE:Option Addr) (capE bE oE:Nat) (aoH:Option Addr) (capH bH oH:Nat) (w:World) (hE:EntsV w aoE g.ents capE bE oE) (hH:Hols w aoH hs capH bH oH) (hl:hs.length≤900) (ho:∀ x∈hs,x.Ok) :
  Calls Tryz.prog 117 #[.agg #[.string g.cur,.int .i64 g.y,.int .i64 g.m,.int .i64 g.n,.slice aoC g.chart.length capC,.int .i64 g.rl.r0,.int .i64 g.rl.r1,.int .i64 g.rl.r2,.int .i64 g.rl.r3,.int .i64 g.rl.r4,.int .i64 g.rl.r5,.int .i64 g.rl.r6,.int .i64 g.rl.r7,.int .i64 g.rl.r8,.int .i64 g.rl.r9,.int .i64 g.rl.r10,.int .i64 g.rl.r11,.int .i64 g.rl.r12,.int .i64 g.rl.r13,.int .i64 g.rl.r14,.slice aoE g.ents.length capE],.slice aoH hs.length capH,.int .i64 en,.int .i64 d] w fun e w'=>e=.returned (.tuple #[(curC g hs d en).1.val,.int .i64 (curC g hs d en).2])∧Keeps w w':=by
 have:=cur_any (gcOf g (.slice aoC g.chart.length capC)) (g.ents.map Ent.joint) hs (datesC hs) (datesC_is hs) en d aoE capE bE oE aoH capH bH oH w hE.ents hH hl ho
 rw [List.length_map] at this
 exact this
theorem currR_any (g:Grp) (hs:List Hol) (d en:Int) (aoC:Option Addr) (capC:Nat) (aoE:Option Addr) (capE bE oE:Nat) (aoH:Option Addr) (capH bH oH:Nat) (w:World) (hE:EntsV w aoE g.ents capE bE oE) (hH:Hols w aoH hs capH bH oH) (hl:hs.length≤900) :
  Calls Tryz.prog 59 #[.agg #[.string g.cur,.int .i64 g.y,.int .i64 g.m,.int .i64 g.n,.slice aoC g.chart.length capC,.int .i64 g.rl.r0,.int .i64 g.rl.r1,.int .i64 g.rl.r2,.int .i64 g.rl.r3,.int .i64 g.rl.r4,.int .i64 g.rl.r5,.int .i64 g.rl.r6,.int .i64 g.rl.r7,.int .i64 g.rl.r8,.int .i64 g.rl.r9,.int .i64 g.rl.r10,.int .i64 g.rl.r11,.int .i64 g.rl.r12,.int .i64 g.rl.r13,.int .i64 g.rl.r14,.slice aoE g.ents.length capE],.slice aoH hs.length capH,.int .i64 en,.int .i64 d] w fun e w'=>e=.returned (.tuple #[(curC g hs d en).1.val,.int .i64 (curC g hs d en).2])∧Keeps w w':=by
 have:=rcur_any (gcOf g (.slice aoC g.chart.length capC)) (g.ents.map Ent.joint) hs (datesC hs) (datesC_is hs) en d aoE capE bE oE aoH capH bH oH w hE.ents hH hl
 rw [List.length_map] at this
 exact this
set_option maxRecDepth 100000 in
theorem full_any (bv:List Value) (g:Grp) (es:List JV) (hs:List Hol) (ms:List MV) (items:List Itm) (B mb:Nat) (a b en:Int) (w:World) (HF:Fin w B mb bv items a b) (H:BkG w bv g es hs ms) (SM:SmallB g es hs ms items) :
  Calls Tryz.prog 77 #[.pointer (some ⟨B,0,none⟩),.int .i64 en] w fun e w'=>e=.returned (.bool (fullB g hs b en))∧Keeps w w':=by
 obtain ⟨aoC,capC,bC,oC,aoE,capE,bE,oE,hgc,hC,hE⟩:=H.grp
 obtain ⟨aoH,capH,bH,oH,hb23,hH⟩:=H.hol
 have hrg:w.rangeAt B 0 (g.cells (.slice aoC g.chart.length capC) (.slice aoE g.ents.length capE)):=fun j v hv=>HF.books j v (hgc j v hv)
 have h23:=HF.cell hb23
 have h29:=(HF.tail H.bks.len).2.2
 have hsz:=World.block_lt_of_cell? _ _ h23
 obtain ⟨⟨x,er⟩,hx⟩:∃ r,curC g hs b en=r:=⟨_,rfl⟩
 have hfb:fullB g hs b en=(er == 0 && x.mth == 3):=by unfold fullB;rw [hx]
 have HCU:Hid (∀ W,Keeps w W→Calls Tryz.prog 117 #[.agg #[.string g.cur,.int .i64 g.y,.int .i64 g.m,.int .i64 g.n,.slice aoC g.chart.length capC,.int .i64 g.rl.r0,.int .i64 g.rl.r1,.int .i64 g.rl.r2,.int .i64 g.rl.r3,.int .i64 g.rl.r4,.int .i64 g.rl.r5,.int .i64 g.rl.r6,.int .i64 g.rl.r7,.int .i64 g.rl.r8,.int .i64 g.rl.r9,.int .i64 g.rl.r10,.int .i64 g.rl.r11,.int .i64 g.rl.r12,.int .i64 g.rl.r13,.int .i64 g.rl.r14,.slice aoE g.ents.length capE],.slice aoH hs.length capH,.int .i64 en,.int .i64 b] W fun e w'=>e=.returned (.tuple #[.agg #[.int .i64 x.frm,.int .i64 x.to,.int .i64 x.mth],.int .i64 er])∧Keeps W w'):=Lib.hid (fun W hk=>by
  have:=currP_any g hs b en aoC capC aoE capE bE oE aoH capH bH oH W (hE.keeps hk) (hH.keeps hk) SM.hlen SM.hok
  rw [hx] at this
  exact this)
 have HKS:Hid (∀ W,Keeps w W→W.rangeAt B 0 (g.cells (.slice aoC g.chart.length capC) (.slice aoE g.ents.length capE))∧W.cell? ⟨B,23,none⟩=some (.slice aoH hs.length capH)∧W.cell? ⟨B,29,none⟩=some (.int .i64 b)):=Lib.hid (fun W hW=>⟨range_keeps hrg hW,hW.cell h23,hW.cell h29⟩)
 have HFB:=Lib.hid hfb
 clear H HF SM hC hE hH hgc hb23 hrg h23 h29 hx hfb
 go_enter Tryz.func77,Tryz.ntmps77
 go_upto_region 1 with fail
 refine wp_region_steps2 (A:=?_) (RV w.heap.size 3 x.cells) [some 8,some 9,some 10,some 11,some 12,some 13,some 14,some 15,some 16,some 17,some 18,some 19,some 20,some 21,some 22,some 23,some 7,some 24,some 25,some 5,none,some 6] [[],[0],[1],[2],[3],[],[5],[6],[7],[8],[],[],[11],[12],[13],[4,9,10,14],[15],[16],[16],[],[17,19],[18]] 22 (by kernel_rfl) (by kernel_rfl) (by kernel_rfl) (by kernel_rfl) (by kernel_rfl) (by kernel_rfl) RV.refl (fun _ _ _=>RV.trans) ?_ ?_
 rotate_left
 ·intro f;simp only [putL,Act.put,List.setIfInBounds_toArray,List.set_cons_zero,List.set_cons_succ,Nat.zero_add,Nat.reduceAdd];exact rfl
 iterate 4 (refine Steps2.pure (v:=?_) RV.refl rfl (fun f w' hR hV=>⟨?_,?_⟩) ?_;rotate_left;(focus rfl);(focus ((repeat (obtain ⟨hq,hV⟩:=hV;(try replace hq:_=_:=hq)));have hkw:=hR.keep w (Nat.le_refl _) (Keeps.refl w).drew;obtain ⟨s0,s1,s2⟩:=HKS.out _ hkw;go_simp;all_goals (try with_reducible rfl))))
 refine Steps2.pure (v:=g.cells (.slice aoC g.chart.length capC) (.slice aoE g.ents.length capE) |> List.toArray |> .agg) RV.refl rfl (fun f w' hR hV=>⟨?_,?_⟩) ?_
 ·(rfl)
 ·(obtain ⟨h3,_⟩:=hV;replace h3:f 3=_:=h3;have hkw:=hR.keep w (Nat.le_refl _) (Keeps.refl w).drew;obtain ⟨s0,s1,s2⟩:=HKS.out _ hkw;exact exec_load_mid 29 (.tmp 11) rfl B h3 (g.cells (.slice aoC g.chart.length capC) (.slice aoE g.ents.length capE)) _ s0 Tryz.underlying29 rfl groupSize)
 iterate 10 (refine Steps2.pure (v:=?_) RV.refl rfl (fun f w' hR hV=>⟨?_,?_⟩) ?_;rotate_left;(focus rfl);(focus ((repeat (obtain ⟨hq,hV⟩:=hV;(try replace hq:_=_:=hq)));have hkw:=hR.keep w (Nat.le_refl _) (Keeps.refl w).drew;obtain ⟨s0,s1,s2⟩:=HKS.out _ hkw;go_simp;all_goals (try with_reducible rfl))))
 refine Steps2.call (fun f _=>f 15=.tuple #[.agg #[.int .i64 x.frm,.int .i64 x.to,.int .i64 x.mth],.int .i64 er]) rfl (fun _ _ _ _ h=>h) (fun _ _ _ h _ hf=>by rw [h] at hf;exact hf) (fun f w' hR hV=>⟨?_,?_⟩) ?_
 ·(rfl)
 ·(obtain ⟨h4,h9,h10,h14,_⟩:=hV;replace h4:f 4=_:=h4;replace h9:f 9=_:=h9;replace h10:f 10=_:=h10;replace h14:f 14=_:=h14;have hkw:=hR.keep w (Nat.le_refl _) (Keeps.refl w).drew;obtain ⟨s0,s1,s2⟩:=HKS.out _ hkw;go_simp;go_at_call 117;refine (HCU.out _ hkw).mono ?_;rintro e w2 ⟨rfl,hk2⟩;exact StepPost2.of _ rfl (by simp [upd2]) (RV.keeps hk2))
 iterate 3 (refine Steps2.pure (v:=?_) RV.refl rfl (fun f w' hR hV=>⟨?_,?_⟩) ?_;rotate_left;(focus rfl);(focus ((repeat (obtain ⟨hq,hV⟩:=hV;(try replace hq:_=_:=hq)));have hkw:=hR.keep w (Nat.le_refl _) (Keeps.refl w).drew;obtain ⟨s0,s1,s2⟩:=HKS.out _ hkw;go_simp;all_goals (try with_reducible rfl))))
 refine Steps2.call (fun f W=>∃ bb,f 19=.pointer (some ⟨bb,0,none⟩)∧w.heap.size≤bb∧W.there bb 0 3) rfl (fun _ _ _ k ⟨bb,h1,h2,h3⟩=>⟨bb,h1,h2,k.th bb h3⟩) (fun f f' w h _ ⟨bb,h1,h2,h3⟩=>⟨bb,h.symm.trans h1,h2,h3⟩) (fun f w' hR hV=>⟨?_,?_⟩) ?_
 ·(rfl)
 ·(clear hV;have hkw:=hR.keep w (Nat.le_refl _) (Keeps.refl w).drew;obtain ⟨s0,s1,s2⟩:=HKS.out _ hkw;go_simp;exact StepPost2.of _ rfl ⟨_,by simp [upd2],hR.size,there_newP _ _ [_,_,_]⟩ (RV.keeps ((Keeps.refl _).alloc _)))
 refine Steps2.call (fun f W=>∃ bb,f 19=.pointer (some ⟨bb,0,none⟩)∧W.rangeAt bb 0 x.cells) rfl (fun _ _ _ k ⟨bb,h1,h2⟩=>⟨bb,h1,k.rg bb h2⟩) (fun f f' w _ hd ⟨bb,h1,h2⟩=>⟨bb,(hd 19 (by decide)).symm.trans h1,h2⟩) (fun f w' hR hV=>⟨?_,?_⟩) ?_
 ·(rfl)
 ·(obtain ⟨h17,h19,_⟩:=hV;replace h17:f 17=_:=h17;replace h19:∃ bb,f 19=.pointer (some ⟨bb,0,none⟩)∧w.heap.size≤bb∧World.there w' bb 0 3:=h19;have hkw:=hR.keep w (Nat.le_refl _) (Keeps.refl w).drew;obtain ⟨s0,s1,s2⟩:=HKS.out _ hkw;obtain ⟨bb,e19,hb,hth⟩:=h19;exact wp_store_mid 127 (.tmp 5) (.tmp 24) rfl bb 0 x.cells.toArray e19 h17 hth ivlSize (all_oneCell_toArray (ivl_one x)) (StepPost2.of _ rfl ⟨bb,by simpa [upd2] using e19,World.rangeAt_setCells_same _ _ _ _ hth⟩ (RV.set hb hth)))
 (refine Steps2.pure (v:=?_) RV.refl rfl (fun f w' hR hV=>⟨?_,?_⟩) ?_;rotate_left;(focus rfl);(focus ((repeat (obtain ⟨hq,hV⟩:=hV;(try replace hq:_=_:=hq)));have hkw:=hR.keep w (Nat.le_refl _) (Keeps.refl w).drew;obtain ⟨s0,s1,s2⟩:=HKS.out _ hkw;go_simp;all_goals (try with_reducible rfl))))
 all_goals (refine Steps2.done [20,21] (by kernel_rfl) rfl (fun f wz hR hV=>?_);obtain ⟨h20,h21,_⟩:=hV;replace h20:∃ bb,f 19=.pointer (some ⟨bb,0,none⟩)∧wz.rangeAt bb 0 x.cells:=h20;replace h21:f 21=_:=h21;simp only [h21])
 obtain ⟨bb,e19,hrc⟩:=h20
 simp only [e19]
 have x2:=hrc 2 _ rfl
 rw [Nat.zero_add] at x2
 have HKZ:Hid (Keeps w wz):=Lib.hid (hR.keep w (Nat.le_refl _) (Keeps.refl w).drew)
 by_cases h0:er=0
 ·subst h0
  go_wp2_with fail
  go_ret
  exact ⟨by rw [HFB.out];rfl,HKZ.out⟩
 ·have e0:(er == 0)=false:=by simpa using h0
  go_wp2_with fail
  go_ret
  exact ⟨by rw [HFB.out,e0];rfl,HKZ.out⟩
end Go.Proofs.YtoaidbhiciaeaaaGreat

end
section
namespace Go.Proofs.YtoaidbhiciaeaaaGreat
open Go.RowKit
structure NestD (ε β:Type) where
 sz:Nat
 enc:β→List Value
 inn:ε→List β
 pa:ε→Option Addr
 pc:ε→Nat
 pb:ε→Nat
def NestD.rec1 {ε β:Type} (D:NestD ε β) (w:World) (e:ε):Prop:=Recs w D.sz D.enc (D.pa e) (D.inn e) (D.pc e) (D.pb e) 0
def NestD.off {ε β:Type} (D:NestD ε β) (w:World) (g:Option Nat) (e:ε):Prop:=0 < (D.inn e).length→some (D.pb e)≠g∧D.pb e < w.heap.size
def Inn {ε β:Type} (D:NestD ε β) (w:World) (g:Option Nat) (l:List ε):Prop:=∀ e∈l,D.rec1 w e∧D.off w g e
section
variable {ε β:Type} {D:NestD ε β} {w w':World} {g g':Option Nat} {l:List ε}
theorem Inn.nil:Inn D w g []:=fun _ h=>absurd h List.not_mem_nil
theorem Inn.keeps (h:Inn D w g l) (k:Keeps w w'):Inn D w' g l:=fun e he=>⟨(h e he).1.keeps k,fun hn=>⟨((h e he).2 hn).1,Nat.lt_of_lt_of_le ((h e he).2 hn).2 k.size⟩⟩
theorem NestD.rec1_grown {e:ε} (h:D.rec1 w e) (ho:D.off w g e) (hg:w.grownBy w' g):D.rec1 w' e:=
 ⟨h.len,h.le,h.nocap,h.cap,h.addr,fun j u hu=>hg.cell (Sl.cell h j u hu) (fun c=>by
  have hj:=(List.getElem?_eq_some_iff.1 hu).1
  rw [h.len] at hj
  refine (ho ?_).1 c
  rcases Nat.eq_zero_or_pos (D.inn e).length with e0 | e0
  ·rw [e0] at hj;simp at hj
  ·exact e0)⟩
theorem Inn.grown (h:Inn D w g l) (hg:w.grownBy w' g) (hat:g'=g∨g'=some w.heap.size):Inn D w' g' l:=fun e he=>by
 refine ⟨NestD.rec1_grown (h e he).1 (h e he).2 hg,fun hn=>⟨?_,Nat.lt_of_lt_of_le ((h e he).2 hn).2 hg.size⟩⟩
 rcases hat with rfl | rfl
 ·exact ((h e he).2 hn).1
 ·have:=((h e he).2 hn).2
  simp;omega
theorem Inn.snoc (h:Inn D w g l) {x:ε} (hx:D.rec1 w x) (ho:D.off w g x):Inn D w g (l ++ [x]):=fun e he=>by
 rcases List.mem_append.1 he with he | he
 ·exact h e he
 ·simp only [List.mem_singleton] at he
  subst he;exact ⟨hx,ho⟩
end
theorem wpList_app_nest {P:Program} {w:World} {ops:Array Oper} {rest:List Oper} {o:Oper} {a:Act} {Q:Exit→Act→World→Prop} {t e:TypeId} {z:Value} {size bytes:Nat}
  (E:ElemOf P t e z size bytes) (hgd:o.guard=none) (s x:Operand) (ho:o.op=.call { callee:=.builtin .append,args:=#[s,x],argTypes:=#[t,t] })
  (w0:World) (v:Value) (n:Nat) (vs:List Value) (hs:a.eval s=v) (base:Nat) (hown:w.ownsRow base e size v n vs) (hb:Below base w0 w) (hbase:base≤w.heap.size)
  {ε β:Type} (D:NestD ε β) (ls:List ε) (hr:Inn D w v.ownBlock ls) (y:ε) (hy:D.rec1 w y) (hoff:D.off w v.ownBlock y)
  (news:List Value) (bx c:Nat) (hx:a.eval x=.slice (some ⟨bx,0,none⟩) 1 c) (hbx:bx=w.heap.size) (hl:news.length=size) (h1:∀ u∈news,u.oneCell'=true) (hbytes:(n+1) * bytes≤140737488355328) (h63:n+1≤9223372036854775807)
  (h:∀ v' w',w'.ownsRow base e size v' (n+1) (vs ++ news)→Inn D w' v'.ownBlock (ls ++ [y])→Below base w0 w'→base≤w'.heap.size→wpList P ops Q rest (a.put o.dst v') w') :
  wpList P ops Q (o :: rest) a (w.alloc (.cells news.toArray e)):=by
 refine wpList_app_rawR E hgd s x ho v n vs hs base hown hbase news bx c hx hbx hl h1 hbytes h63 ?_
 intro v' w' hown' hg hat
 have hk:Keeps w (w.alloc (.cells news.toArray e)):=(Keeps.refl w).alloc _
 refine h v' w' hown' (Inn.grown ((hr.snoc hy hoff).keeps hk) hg (by simpa using hat)) ((hb.alloc hbase _).grown hg (by simp;omega) (fun k hk=>(hown.lt k hk).1)) (Nat.le_trans hbase (Nat.le_trans (by simp) hg.size))
theorem off_new {w wo:World} {base e1 e2 s1 n1:Nat} {v:Value} {xs:List Value} (hv:wo.ownsRow base e1 s1 v n1 xs) {ε β:Type} {D:NestD ε β} {y:ε} (hu:w.ownsRow wo.heap.size e2 D.sz (.slice (D.pa y) (D.inn y).length (D.pc y)) (D.inn y).length ((D.inn y).flatMap D.enc)) (hr:D.rec1 w y):D.off w v.ownBlock y:=fun hn=>by
 have ha:=hr.addr hn
 have hb:(Value.slice (D.pa y) (D.inn y).length (D.pc y)).ownBlock=some (D.pb y):=by rw [ha];rfl
 have h1:=hu.lt _ hb
 refine ⟨fun e=>?_,h1.2⟩
 have h2:=(hv.lt _ e.symm).2
 omega
end Go.Proofs.YtoaidbhiciaeaaaGreat

end
