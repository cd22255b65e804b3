/- Walks and plain facts that the claim rests on (RH, RGrA). No condition. -/
import Derived.Test.YtoaidbhiciaeaaaGreatPo09
import Derived.Test.YtoaidbhiciaeaaaGreatPo26
import Derived.Test.YtoaidbhiciaeaaaGreatPo30
import Derived.Test.YtoaidbhiciaeaaaGreatPo25
import Derived.Deep.QuietTactic
import Derived.BigQuiet
set_option linter.unusedSimpArgs false
set_option linter.unusedVariables false
set_option maxHeartbeats 16000000
section
namespace Go.Proofs.YtoaidbhiciaeaaaGreat
open Go.RowKit
section
variable {P:Program} {ops:Array Oper} {Q:Exit→Act→World→Prop} {R:World→World→Prop}
abbrev Find2:=Nat→(Nat→Value)→World→Prop
def upd2 (f:Nat→Value) (k:Nat) (v:Value):Nat→Value:=fun j=>if j=k then v else f j
def Holds2 (V:Find2) (f:Nat→Value) (w:World):List Nat→Prop
 | []=>True
 | j :: js=>V j f w∧Holds2 V f w js
theorem Holds2.of {V:Find2} {f:Nat→Value} {w:World}:∀ {l:List Nat},(∀ j∈l,V j f w)→Holds2 V f w l
 | [],_=>trivial
 | j :: js,h=>⟨h j (by simp),Holds2.of fun k hk=>h k (by simp [hk])⟩
theorem Holds2.get {V:Find2} {f:Nat→Value} {w:World}:∀ {l:List Nat},Holds2 V f w l→∀ j∈l,V j f w
 | j :: js,h,k,hk=>by
  rcases List.mem_cons.1 hk with rfl | hk
  ·exact h.1
  ·exact h.2.get k hk
def also2 (V:Find2) (k:Nat) (W:(Nat→Value)→World→Prop):Find2:=fun j=>bif Nat.beq j k then W else V j
theorem also2_same {V:Find2} {k:Nat} {W:(Nat→Value)→World→Prop}:also2 V k W k=W:=by simp [also2]
theorem also2_ne {V:Find2} {k j:Nat} {W:(Nat→Value)→World→Prop} (h:j≠k):also2 V k W j=V j:=by
 unfold also2
 have:Nat.beq j k=false:=by (cases e:Nat.beq j k;rfl;exact absurd (Nat.eq_of_beq_eq_true e) h)
 rw [this];rfl
def noneYet2:Find2:=fun _ _ _=>True
def StepOk2 (P:Program) (ops:Array Oper) (Q:Exit→Act→World→Prop) (R:World→World→Prop) (o:Oper) (k:Nat) (f:Nat→Value) (A:Act) (w':World) (V:(Nat→Value)→World→Prop):Prop:=
 if Region.wanted o (yielded ops A.tmps)=true then o.wp P A w' (fun a2 w2=>∃ v,a2=A.put o.dst v∧V (upd2 f k v) w2∧R w' w2) Q else V (upd2 f k undef) w'
inductive Steps2 (P:Program) (ops:Array Oper) (Q:Exit→Act→World→Prop) (R:World→World→Prop) (A:(Nat→Value)→Act) (w:World) (D:List (List Nat)):Nat→Find2→Prop
 | last {V:Find2} (h:∀ f w',R w w'→(∀ j < ops.size,V j f w')→Q .normal (A f) w'):Steps2 P ops Q R A w D ops.size V
 | cons {k:Nat} {V:Find2} {o:Oper} (W:(Nat→Value)→World→Prop) (ho:ops[k]?=some o) (hst:∀ f w1 w2,R w1 w2→W f w1→W f w2) (hfd:∀ f f' w,f k=f' k→(∀ i∈D.getD k [],f i=f' i)→W f w→W f' w)
   (h:∀ f w',R w w'→Holds2 V f w' (D.getD k [])→StepOk2 P ops Q R o k f (A f) w' W) (hr:Steps2 P ops Q R A w D (k+1) (also2 V k W)):Steps2 P ops Q R A w D k V
theorem Steps2.all {A:(Nat→Value)→Act} {w:World} {D:List (List Nat)} (hD:depsOk ops D=true) {k:Nat} {V:Find2} (hs:Steps2 P ops Q R A w D k V) :
  ∃ U:Find2,(∀ j < k,U j=V j)∧
   (∀ i o,k≤i→ops[i]?=some o→((∀ f w1 w2,R w1 w2→U i f w1→U i f w2)∧∀ f f' w,f i=f' i→(∀ j∈D.getD i [],f j=f' j)→U i f w→U i f' w)∧
    ∀ f w',R w w'→Holds2 U f w' (D.getD i [])→StepOk2 P ops Q R o i f (A f) w' (U i))∧
   (∀ f w',R w w'→(∀ j < ops.size,U j f w')→Q .normal (A f) w'):=by
 induction hs with
 | last h=>exact ⟨_,fun _ _=>rfl,fun i o hi ho=>absurd (Array.getElem?_eq_some_iff.1 ho).1 (by omega),h⟩
 | @cons k V o W ho hst hfd h hr ih=>
  obtain ⟨U,hU,h1,h2⟩:=ih
  have hUk:U k=W:=(hU k (by omega)).trans also2_same
  refine ⟨U,fun j hj=>(hU j (by omega)).trans (also2_ne (by omega)),fun i oi hi hoi=>?_,h2⟩
  by_cases hk:i=k
  ·subst hk
   rw [ho] at hoi
   obtain rfl:o=oi:=by simpa using hoi
   rw [hUk]
   refine ⟨⟨hst,hfd⟩,fun f w' hw hH=>h f w' hw (Holds2.of fun j hj=>?_)⟩
   have hji:=(depsOk_spec hD ho hj).1
   have:=hH.get j hj
   rw [hU j (by omega),also2_ne (by omega)] at this
   exact this
  ·exact h1 i oi (by omega) hoi
theorem steps2_any {w:World} {A:(Nat→Value)→Act} {a:Act} {D:List (List Nat)} (hd:dstsApart ops=true) (he:edgesOk ops=true) (hD:depsOk ops D=true) (hA:∀ f,putAll ops a f ops.size=A f)
  (hR0:∀ w,R w w) (hR:∀ w1 w2 w3,R w1 w2→R w2 w3→R w1 w3) (U:Find2)
  (h1:∀ i o,ops[i]?=some o→((∀ f w1 w2,R w1 w2→U i f w1→U i f w2)∧∀ f f' w,f i=f' i→(∀ j∈D.getD i [],f j=f' j)→U i f w→U i f' w)∧
    ∀ f w',R w w'→Holds2 U f w' (D.getD i [])→StepOk2 P ops Q R o i f (A f) w' (U i))
  (h2:∀ f w',R w w'→(∀ j < ops.size,U j f w')→Q .normal (A f) w') :
  ∀ (fuel:Nat) (listed:Array Bool) (f:Nat→Value) (w':World),listed.size=ops.size→(∀ i < ops.size,listed.getD i false=true→U i f w') →
   (∀ i o,ops[i]?=some o→listed.getD i false=true→∀ e∈o.after,Region.binds .any e=true→listed.getD e.on false=true) →
   R w w'→unl listed ops.size≤fuel→wpAny P .any ops Q fuel listed (A f) w':=by
 intro fuel
 have fin:∀ (listed:Array Bool) (f:Nat→Value) (w':World),(∀ i < ops.size,listed.getD i false=true)→(∀ i < ops.size,listed.getD i false=true→U i f w')→R w w'→Q .normal (A f) w':=by
  intro listed f w' hall hV hw
  exact h2 f w' hw fun j hj=>hV j hj (hall j hj)
 induction fuel with
 | zero=>
  intro listed f w' hs hV _ hw hf
  have hall:=unl_zero (Nat.le_zero.1 hf)
  refine ⟨?_,fin listed f w' hall hV hw⟩
  refine List.eq_nil_iff_forall_not_mem.2 fun i hi=>?_
  obtain ⟨h0,o,ho,_⟩:=mem_ready.1 hi
  have hlt:=(Array.getElem?_eq_some_iff.1 ho).1
  rw [getD_tf (by omega),hall i hlt] at h0
  cases h0
 | succ fuel ih=>
  intro listed f w' hs hV hcl hw hf
  refine ⟨fun hr=>fin listed f w' (ready_of_unl he hs hr) hV hw,fun i hi=>?_⟩
  obtain ⟨h0,o,ho,hall⟩:=mem_ready.1 hi
  have hlt:=(Array.getElem?_eq_some_iff.1 ho).1
  rw [getD_tf (by omega)] at h0
  obtain ⟨hst,hstep⟩:=h1 i o ho
  have hdep:∀ n,∀ j o',j≤n→ops[j]?=some o'→(∀ e∈o'.after,Region.binds .any e=true→listed.getD e.on false=true)→∀ k∈D.getD j [],k < ops.size∧listed.getD k false=true:=by
   intro n
   induction n with
   | zero=>
    intro j o' hj ho' hl k hk
    have:=(depsOk_spec hD ho' hk).1
    omega
   | succ n ihn=>
    intro j o' hj ho' hl k hk
    have hjlt:=(Array.getElem?_eq_some_iff.1 ho').1
    obtain ⟨hkj,e,hem,hb,hor⟩:=depsOk_spec hD ho' hk
    rcases hor with rfl | hin
    ·exact ⟨by omega,hl e hem hb⟩
    ·have hej:=edgesOk_spec he ho' hem hb
     have hoe:ops[e.on]?=some (ops[e.on]'(by omega)):=Array.getElem?_eq_some_iff.2 ⟨by omega,rfl⟩
     exact ihn e.on _ (by omega) hoe (hcl e.on _ hoe (hl e hem hb)) k hin
  have hH:Holds2 U f w' (D.getD i []):=by
   refine Holds2.of fun j hj=>?_
   obtain ⟨ha,hb⟩:=hdep i i o (Nat.le_refl _) ho hall j hj
   exact hV j ha hb
  have hs1:=hstep f w' hw hH
  have key:∀ v w2,U i (upd2 f i v) w2→R w' w2→wpAny P .any ops Q fuel (listed.setIfInBounds i true) ((A f).put o.dst v) w2:=by
   intro v w2 hv hr2
   have hg:A (upd2 f i v)=(A f).put o.dst v:=by
    rw [← hA,← hA,putAll_upd hd (f:=f) (i:=i) (v:=v) (fun j hj=>by simp [upd2,hj]) (by simp [upd2]) hlt (Nat.le_refl _),ho]
    rfl
   rw [← hg]
   refine ih _ _ w2 (by simpa using hs) (fun j hj hl=>?_) (fun j oj hoj hl e hem hb=>?_) (hR _ _ _ hw hr2) (by have:=unl_set (by omega) h0 hlt;omega)
   ·by_cases hji:j=i
    ·subst hji;exact hv
    ·rw [getD_set_ne false (fun e=>hji e.symm)] at hl
     have hoj:ops[j]?=some ops[j]:=Array.getElem?_eq_some_iff.2 ⟨hj,rfl⟩
     have hU:=(h1 j _ hoj).1
     refine hU.2 f _ w2 (by simp [upd2,hji]) (fun q hq=>?_) (hU.1 f w' w2 hr2 (hV j hj hl))
     have hqi:q≠i:=fun e=>by
      have:=(hdep j j _ (Nat.le_refl _) hoj (hcl j _ hoj hl) q hq).2
      rw [e,h0] at this
      cases this
     simp [upd2,hqi]
   ·by_cases hji:j=i
    ·subst hji
     rw [ho] at hoj
     obtain rfl:o=oj:=by simpa using hoj
     exact getD_set_true (hall e hem hb)
    ·rw [getD_set_ne false (fun e=>hji e.symm)] at hl
     exact getD_set_true (hcl j oj hoj hl e hem hb)
  unfold wpOp
  simp only [ho]
  unfold StepOk2 at hs1
  split
  ·rename_i hw1
   rw [if_pos hw1] at hs1
   refine .inl (Oper.wp_mono ?_ hs1)
   rintro a2 w2 ⟨v,rfl,hv,hr2⟩
   exact key v w2 hv hr2
  ·rename_i hw1
   rw [if_neg hw1] at hs1
   exact key undef w' hs1 (hR0 w')
theorem wp_region_steps2 {id:Nat} {a:Act} {w:World} {A:(Nat→Value)→Act} (R:World→World→Prop) (ds:List (Option Tmp)) (D:List (List Nat)) (n:Nat) (hm:P.follows .mixedOrders=true)
  (hds:ops.toList.map (·.dst)=ds) (_hn:ops.size=n) (hd:dstsApart ops=true) (he:edgesOk ops=true) (hD:depsOk ops D=true) (hR0:∀ w,R w w) (hR:∀ w1 w2 w3,R w1 w2→R w2 w3→R w1 w3)
  (hA:∀ f,putL f ds 0 a=A f) (h:Steps2 P ops Q R A w.drew D 0 noneYet2):(Code.region id ops true).wp P Q a w:=by
 obtain ⟨U,_,h1,h2⟩:=h.all hD
 have hA':∀ f,putAll ops a f ops.size=A f:=fun f=>by
  rw [putAll_putL _ (Nat.le_refl _),← hA,← hds]
  rw [List.take_of_length_le (by simp)]
 refine wp_region_any hm ?_
 have h0:=putAll_self (ops:=ops) (a:=a) (f:=fun i=>(match (ops[i]?).bind (·.dst) with | some d=>a.tmps.getD d undef | none=>undef)) (fun i=>rfl) ops.size
 rw [hA'] at h0
 rw [← h0]
 refine steps2_any hd he hD hA' hR0 hR U (fun i o ho=>h1 i o (Nat.zero_le _) ho) h2 _ _ _ _ (by simp) (fun i hi hl=>?_) (fun i o ho hl=>?_) (hR0 _) ?_
 ·simp [hi] at hl
 ·have:=(Array.getElem?_eq_some_iff.1 ho).1
  simp [this] at hl
 ·have:∀ (l:Array Bool) k,unl l k≤k:=by
   intro l k
   induction k with
   | zero=>exact Nat.le_refl _
   | succ k ih=>simp only [unl];split <;> omega
  exact this _ _
section
variable {A:(Nat→Value)→Act} {w:World} {D:List (List Nat)} {k:Nat} {V:Find2} {o:Oper}
theorem Steps2.done (E:List Nat) (hE:E.all (fun j=>decide (j < ops.size))=true) (hk:ops.size=k) (h:∀ f w',R w w'→Holds2 V f w' E→Q .normal (A f) w'):Steps2 P ops Q R A w D k V:=by
 subst hk
 exact .last fun f w' hw hV=>h f w' hw (Holds2.of fun j hj=>hV j (by simpa using List.all_eq_true.1 hE j hj))
theorem Steps2.pure (v:Value) (hR0:∀ w,R w w) (ho:ops[k]?=some o)
  (hw:∀ f w',R w w'→Holds2 V f w' (D.getD k [])→Region.wanted o (yielded ops (A f).tmps)=true∧(execOp (A f).eval o).run P w'=.ok (.value v) w') (hr:Steps2 P ops Q R A w D (k+1) (also2 V k (fun f _=>f k=v))):Steps2 P ops Q R A w D k V:=by
 refine .cons _ ho (fun _ _ _ _ h=>h) (fun f f' _ h _ hf=>h.symm.trans hf) (fun f w' h1 h2=>?_) hr
 obtain ⟨h3,h4⟩:=hw f w' h1 h2
 unfold StepOk2
 rw [if_pos h3]
 unfold Oper.wp
 rw [h4]
 exact ⟨v,rfl,by simp [upd2],hR0 _⟩
def StepPost2 (R:World→World→Prop) (A:Act) (o:Oper) (k:Nat) (f:Nat→Value) (W:(Nat→Value)→World→Prop) (w':World):Act→World→Prop:=fun a2 w2=>∃ v,a2=A.put o.dst v∧W (upd2 f k v) w2∧R w' w2
theorem StepPost2.of {B:Act} {k:Nat} {f:Nat→Value} {W:(Nat→Value)→World→Prop} {w1 w2:World} {a2:Act} (v:Value) (h:a2=B.put o.dst v) (hW:W (upd2 f k v) w2) (hr:R w1 w2):StepPost2 R B o k f W w1 a2 w2:=⟨v,h,hW,hr⟩
theorem Steps2.call (W:(Nat→Value)→World→Prop) (ho:ops[k]?=some o) (hst:∀ f w1 w2,R w1 w2→W f w1→W f w2) (hfd:∀ f f' w,f k=f' k→(∀ i∈D.getD k [],f i=f' i)→W f w→W f' w)
  (hw:∀ f w',R w w'→Holds2 V f w' (D.getD k [])→Region.wanted o (yielded ops (A f).tmps)=true∧o.wp P (A f) w' (StepPost2 R (A f) o k f W w') Q) (hr:Steps2 P ops Q R A w D (k+1) (also2 V k W)):Steps2 P ops Q R A w D k V:=by
 refine .cons _ ho hst hfd (fun f w' h1 h2=>?_) hr
 obtain ⟨h3,h4⟩:=hw f w' h1 h2
 unfold StepOk2
 rw [if_pos h3]
 exact h4
end
end
structure RV (N n:Nat) (C:List Value) (w w':World):Prop where
 size:w.heap.size≤w'.heap.size
 keep:∀ w0:World,w0.heap.size≤N→Keeps w0 w→Keeps w0 w'
 th:∀ b,w.there b 0 n→w'.there b 0 n
 rg:∀ b,w.rangeAt b 0 C→w'.rangeAt b 0 C
variable {N n:Nat} {C:List Value}
theorem RV.refl (w:World):RV N n C w w:=⟨Nat.le_refl _,fun _ _ h=>h,fun _ h=>h,fun _ h=>h⟩
theorem RV.trans {a b c:World} (h:RV N n C a b) (k:RV N n C b c):RV N n C a c:=⟨Nat.le_trans h.size k.size,fun w0 h0 h1=>k.keep w0 h0 (h.keep w0 h0 h1),fun q h1=>k.th q (h.th q h1),fun q h1=>k.rg q (h.rg q h1)⟩
theorem RV.keeps {a b:World} (h:Keeps a b):RV N n C a b:=⟨h.size,fun w0 _ h1=>h1.trans h,fun q h1=>there_keeps h1 h,fun q h1=>range_keeps h1 h⟩
theorem RV.set {w:World} {b:Nat} (hb:N≤b) (ht:w.there b 0 C.length):RV N n C w (w.setCells b 0 C):=
 ⟨by rw [size_sets];exact Nat.le_refl _,fun w0 h0 h1=>keeps_setCellsP (Nat.le_trans h0 hb) _ _ _ h1,fun q h1=>there_set h1,fun q h1=>by
  by_cases e:q=b
  ·subst e;exact World.rangeAt_setCells_same _ _ _ _ ht
  ·exact range_setCells h1 e _⟩
end Go.Proofs.YtoaidbhiciaeaaaGreat

end
section
namespace Go.Proofs.YtoaidbhiciaeaaaGreat
open Go.RowKit
set_option maxRecDepth 100000 in
theorem racct_any (g:Grp) (ev:Value) (code:Int) (aoC:Option Addr) (capC bC oC:Nat) (w:World) (H:Accs w aoC g.chart capC bC oC) :
  Calls Tryz.prog 135 #[.agg #[.string g.cur,.int .i64 g.y,.int .i64 g.m,.int .i64 g.n,.slice aoC g.chart.length capC,.int .i64 g.rl.r0,.int .i64 g.rl.r1,.int .i64 g.rl.r2,.int .i64 g.rl.r3,.int .i64 g.rl.r4,.int .i64 g.rl.r5,.int .i64 g.rl.r6,.int .i64 g.rl.r7,.int .i64 g.rl.r8,.int .i64 g.rl.r9,.int .i64 g.rl.r10,.int .i64 g.rl.r11,.int .i64 g.rl.r12,.int .i64 g.rl.r13,.int .i64 g.rl.r14,ev],.int .i64 code] w fun e w'=>e=.returned (AccO (findA g.chart code))∧Keeps w w':=by
 obtain ⟨a,ha⟩:∃ a,(findA g.chart code).getD Acc.zero=a:=⟨_,rfl⟩
 obtain ⟨p,hp⟩:∃ p,(findA g.chart code).isSome=p:=⟨_,rfl⟩
 have hA:AccO (findA g.chart code)=.tuple #[.agg #[.int .i64 a.code,.int .i64 a.kind,.int .i64 a.basis,.int .i64 a.parent],.bool p]:=by unfold AccO;rw [ha,hp];rfl
 have HF:Hid (∀ W,Keeps w W→Calls Tryz.prog 169 #[.slice aoC g.chart.length capC,.int .i64 code] W fun e w'=>e=.returned (.tuple #[.agg #[.int .i64 a.code,.int .i64 a.kind,.int .i64 a.basis,.int .i64 a.parent],.bool p])∧Keeps W w'):=Lib.hid (fun W hk=>by rw [← hA];exact rfind_any g.chart code aoC capC bC oC W (H.keeps hk))
 have HA:=Lib.hid hA
 clear H ha hp hA
 go_enter Tryz.func135,Tryz.ntmps135
 go_wp2_with (go_at_call 169;(refine (HF.out _ (((Keeps.refl w).alloc _).alloc _)).mono ?_);rintro e1 w1 ⟨rfl,hk1⟩;have K1:=Lib.hid ((((Keeps.refl w).alloc (.cells (g.cells (.slice aoC g.chart.length capC) ev).toArray 29)).alloc (.cells #[.int .i64 0,.int .i64 0,.int .i64 0,.int .i64 0] 68)).trans hk1);have d0:=hk1.cell (p:=⟨w.heap.size+1,0,none⟩) (v:=.int .i64 0) (by go_simp);have d1:=hk1.cell (p:=⟨w.heap.size+1,1,none⟩) (v:=.int .i64 0) (by go_simp);have d2:=hk1.cell (p:=⟨w.heap.size+1,2,none⟩) (v:=.int .i64 0) (by go_simp);have d3:=hk1.cell (p:=⟨w.heap.size+1,3,none⟩) (v:=.int .i64 0) (by go_simp);have f0:=hk1.frz (p:=⟨w.heap.size+1,0,none⟩) (v:=.int .i64 0) (by go_simp) (by go_simp);have f1:=hk1.frz (p:=⟨w.heap.size+1,1,none⟩) (v:=.int .i64 0) (by go_simp) (by go_simp);have f2:=hk1.frz (p:=⟨w.heap.size+1,2,none⟩) (v:=.int .i64 0) (by go_simp) (by go_simp);have f3:=hk1.frz (p:=⟨w.heap.size+1,3,none⟩) (v:=.int .i64 0) (by go_simp) (by go_simp);have hbw:=World.block_lt_of_cell? w1 _ d0;clear hk1)
 refine bodyPost_ret (v:=.tuple #[.agg #[.int .i64 a.code,.int .i64 a.kind,.int .i64 a.basis,.int .i64 a.parent],.bool p]) (by simp [results,Tryz.results135,go_sem,d0,d1,d2,d3,hbw]) rfl ?_
 rw [HA.out]
 exact ⟨rfl,by (repeat (first | exact K1.out | refine Keeps.setCell ?_ (Nat.le_succ _) _))⟩
set_option maxRecDepth 100000 in
theorem rgfind_any (g:Grp) (nm:ByteArray) (hfn:fnm g.ents nm < g.ents.length) (aoC:Option Addr) (capC:Nat) (aoE:Option Addr) (capE bE oE:Nat) (w:World) (HE:EntsV w aoE g.ents capE bE oE) :
  Calls Tryz.prog 85 #[.agg #[.string g.cur,.int .i64 g.y,.int .i64 g.m,.int .i64 g.n,.slice aoC g.chart.length capC,.int .i64 g.rl.r0,.int .i64 g.rl.r1,.int .i64 g.rl.r2,.int .i64 g.rl.r3,.int .i64 g.rl.r4,.int .i64 g.rl.r5,.int .i64 g.rl.r6,.int .i64 g.rl.r7,.int .i64 g.rl.r8,.int .i64 g.rl.r9,.int .i64 g.rl.r10,.int .i64 g.rl.r11,.int .i64 g.rl.r12,.int .i64 g.rl.r13,.int .i64 g.rl.r14,.slice aoE g.ents.length capE],.string nm] w fun e w'=>e=.returned (.tuple #[.int .i64 (fnm g.ents nm),.bool true])∧Keeps w w':=by
 have hcap:=HE.capE
 have hle:=HE.leE
 have HHE:=Lib.hid HE
 have hrg:=box_range w (g.cells (.slice aoC g.chart.length capC) (.slice aoE g.ents.length capE)) 29
 have hk0:Keeps w (w.alloc (.cells (g.cells (.slice aoC g.chart.length capC) (.slice aoE g.ents.length capE)).toArray 29)):=(Keeps.refl w).alloc _
 have c20:=hrg 20 _ rfl
 simp only [Nat.zero_add] at c20
 obtain ⟨W1,hW1⟩:∃ W1,w.alloc (.cells (g.cells (.slice aoC g.chart.length capC) (.slice aoE g.ents.length capE)).toArray 29)=W1:=⟨_,rfl⟩
 rw [hW1] at hk0 c20
 have hW2:w.alloc (.cells #[.string g.cur,.int .i64 g.y,.int .i64 g.m,.int .i64 g.n,.slice aoC g.chart.length capC,.int .i64 g.rl.r0,.int .i64 g.rl.r1,.int .i64 g.rl.r2,.int .i64 g.rl.r3,.int .i64 g.rl.r4,.int .i64 g.rl.r5,.int .i64 g.rl.r6,.int .i64 g.rl.r7,.int .i64 g.rl.r8,.int .i64 g.rl.r9,.int .i64 g.rl.r10,.int .i64 g.rl.r11,.int .i64 g.rl.r12,.int .i64 g.rl.r13,.int .i64 g.rl.r14,.slice aoE g.ents.length capE] 29)=W1:=hW1
 have HK0:=Lib.hid hk0
 have HFN:=Lib.hid hfn
 clear HE hrg hk0 hfn hW1
 go_enter Tryz.func85,Tryz.ntmps85
 go_wp2_with fail
 try rw [hW2]
 clear hW2
 go_loopw [6] (fun vi wr=>∃ k:Nat,k≤fnm g.ents nm∧vi=.int .i64 k∧Hid (Keeps W1 wr)) (fun vi _=>g.ents.length - (intOf vi).toNat)
 case atStart=>exact ⟨0,Nat.zero_le _,rfl,Lib.hid (Keeps.refl W1)⟩
 case round=>
  obtain ⟨k,hk,rfl,HW⟩:=hrel
  have hlt:k < g.ents.length:=Nat.lt_of_le_of_lt hk HFN.out
  have hc:=HW.out.cell c20
  obtain ⟨aoX,capX,bX,oX,aoL,capL,bL,oL,hX,hL,hr⟩:=(HHE.out.keeps (HK0.out.trans HW.out)).ent k hlt
  have hixe:=HHE.out.atE k hlt
  have c0:=hr 0 _ rfl
  simp only [Nat.add_zero] at c0
  obtain ⟨e,he⟩:∃ e,g.ents[k]=e:=⟨_,rfl⟩
  rw [he] at c0
  have HE1:=Lib.hid he
  clear hX hL hr he
  by_cases hf:k=fnm g.ents nm
  ·have hn:e.name=nm:=by
    have h2:=List.findIdx_getElem (p:=fun q:Ent=>decide (q.name=nm)) (xs:=g.ents) (w:=HFN.out)
    rw [decide_eq_true_eq] at h2
    have h3:g.ents[k]=g.ents[fnm g.ents nm]'HFN.out:=by simp only [hf]
    rw [← HE1.out,h3]
    exact h2
   have e1:(e.name.toList == nm.toList)=true:=by rw [hn];simp
   have HFE:=Lib.hid hf
   clear hf hn
   go_wp2_with fail
   refine bodyPost_ret (results_tmp2 rfl _ _ _) rfl ?_
   rw [← HFE.out]
   exact ⟨rfl,HK0.out.trans HW.out⟩
  ·have hn:¬ e.name=nm:=by
    have:=List.not_of_lt_findIdx (p:=fun q:Ent=>decide (q.name=nm)) (xs:=g.ents) (i:=k) (by unfold fnm at hk hf;omega)
    rw [HE1.out] at this
    simpa using this
   have e1:(e.name.toList == nm.toList)=false:=by
    rw [Bool.eq_false_iff]
    intro h
    rw [beq_iff_eq,ByteArray.toList_eq,ByteArray.toList_eq] at h
    exact hn (ByteArray.ext (Array.toList_inj.mp h))
   have hk2:k+1≤fnm g.ents nm:=by omega
   have HK2:=Lib.hid hk2
   clear hf hn hk2
   go_wp2_with fail
   go_roundw
   case rel=>exact ⟨k+1,HK2.out,by go_num,HW⟩
   case measure=>simp [intOf];omega
end Go.Proofs.YtoaidbhiciaeaaaGreat

end
