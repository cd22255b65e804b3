/- Walks and plain facts that the claim rests on (ScopeW). No condition. -/
import Derived.Test.YtoaidbhiciaeaaaGreatPo22
import Derived.Test.YtoaidbhiciaeaaaGreatPo19
import Derived.Test.YtoaidbhiciaeaaaGreatPo09
import Derived.RangeFuncBox
set_option linter.unusedSimpArgs false
set_option linter.unusedVariables false
set_option maxHeartbeats 16000000
section
namespace Go.Proofs.YtoaidbhiciaeaaaGreat
open Go.RowKit Go.Shelf
attribute [local go_sem] Oper.semAt_some
def Ivl.cells (x:Ivl):List Value:=[.int .i64 x.frm,.int .i64 x.to,.int .i64 x.mth]
theorem Ivl.len (x:Ivl):x.cells.length=3:=rfl
abbrev Ivls (w:World) (ao:Option Addr) (l:List Ivl) (cap b o:Nat):Prop:=Recs w 3 Ivl.cells ao l cap b o
theorem infoIvl:(Tryz.prog.info? 127).map (fun i=>(i.zero,i.size,i.bytes))=some (some (.agg #[.int .i64 0,.int .i64 0,.int .i64 0]),3,24):=by kernel_rfl
theorem elemIvl:ElemOf Tryz.prog 155 127 (.agg #[.int .i64 0,.int .i64 0,.int .i64 0]) 3 24:=⟨Tryz.underlying155,infoIvl,rfl,by omega⟩
theorem flat_endsAt (out:List Ivl) (x:Ivl) (d:Int):((out ++ [x]).flatMap Ivl.cells).set (out.length * 3+1) (.int .i64 d)=(out ++ [endsAt x d]).flatMap Ivl.cells:=by
 rw [List.flatMap_append,List.flatMap_append,List.set_append_right _ _ (by rw [flat_length Ivl.len];omega),flat_length Ivl.len]
 congr 1
 rw [show out.length * 3+1 - out.length * 3=1 from by omega]
 rfl
theorem isDates_ex:∀ l:List Hol,∃ xs,IsDates l xs:=by
 intro l
 induction l with
 | nil=>exact ⟨[],List.Pairwise.nil,fun x=>by simp⟩
 | cons a l ih=>
  obtain ⟨xs,h1,h2⟩:=ih
  refine ⟨xs.filter (fun d=>decide (d < a.date)) ++ [a.date] ++ xs.filter (fun d=>decide (a.date < d)),?_,fun x=>?_⟩
  ·unfold Asc
   rw [List.append_assoc,List.pairwise_append]
   refine ⟨h1.sublist List.filter_sublist,?_,?_⟩
   ·rw [List.singleton_append,List.pairwise_cons]
    exact ⟨fun b hb=>by simpa using (List.mem_filter.1 hb).2,h1.sublist List.filter_sublist⟩
   ·intro b hb c hc
    have h3:b < a.date:=by simpa using (List.mem_filter.1 hb).2
    rw [List.singleton_append,List.mem_cons] at hc
    rcases hc with rfl | hc
    ·exact h3
    ·have h4:a.date < c:=by simpa using (List.mem_filter.1 hc).2
     omega
  ·simp only [List.mem_append,List.mem_filter,List.mem_singleton,decide_eq_true_eq,h2,List.mem_cons,List.not_mem_nil,or_false]
   constructor
   ·rintro ((⟨⟨y,hy,rfl⟩,_⟩ | rfl) | ⟨⟨y,hy,rfl⟩,_⟩)
    ·exact ⟨y,.inr hy,rfl⟩
    ·exact ⟨a,.inl rfl,rfl⟩
    ·exact ⟨y,.inr hy,rfl⟩
   ·rintro ⟨y,rfl | hy,rfl⟩
    ·exact .inl (.inr rfl)
    ·by_cases h3:y.date < a.date
     ·exact .inl (.inl ⟨⟨y,hy,rfl⟩,h3⟩)
     ·by_cases h4:a.date < y.date
      ·exact .inr ⟨⟨y,hy,rfl⟩,h4⟩
      ·exact .inl (.inr (by omega))
theorem wpListIn_load_mid {F:Fence} {m:Nat} {P:Program} {ops:Array Oper} {rest:List Oper} {op:Oper} {a:Act} {w:World} {Q:Exit→Act→World→Prop} (hgd:op.guard=none) (ty:TypeId) (x:Operand) (ho:op.op=.load ty x)
  (b o:Nat) (hx:a.eval x=.pointer (some ⟨b,o,none⟩)) (cs:List Value) (d:TypeDesc) (hc:w.rangeAt b o cs)
  (hu:P.underlying ty=some d) (hd:d.isRow=true) (hi:(P.info? ty).map (·.size)=some cs.length)
  (h:wpListIn F m P ops Q rest (a.put op.dst (.agg cs.toArray)) w):wpListIn F m P ops Q (op :: rest) a w:=by
 refine wpListIn_plain hgd fun K hK'=>?_
 unfold Oper.wpIn
 refine ⟨?_,?_⟩
 ·simp [Oper.about,ho]
 ·rw [Oper.semAt_plain F _ _ (by rw [ho];intro c hc';cases hc')]
  unfold execOp
  simp only [ho,hx,Instr.loadAt,Instr.sureAddr,Sem.run_bind,Sem.run_pure,Result.andThen_ok,run_loadVar_mid w b o ty cs d hc hu hd hi]
  exact hK' _ _ h
theorem results_cell_cell {P:Program} {fn:Func} {p q:Tmp} {ty tz:TypeId} (h:fn.results=#[.cell p ty,.cell q tz]) (tmps:Array Value) (w:World) {a b:Addr} {va vb:Value}
  (hp:tmps.getD p undef=.pointer (some a)) (hq:tmps.getD q undef=.pointer (some b)) (ha:(loadVar ty a).run P w=.ok va w) (hb:(loadVar tz b).run P w=.ok vb w):(results fn tmps).run P w=.ok (.tuple #[va,vb]) w:=by
 have hp':tmps[p]?.getD undef=.pointer (some a):=by simpa using hp
 have hq':tmps[q]?.getD undef=.pointer (some b):=by simpa using hq
 simp [results,h,hp',hq',asAddr,ha,hb,Sem.run_bind,Result.andThen]
def IvOut (w:World) (r:List Ivl × Int) (e:Ending) (w':World):Prop:=∃ ao cap b o,e=.returned (.tuple #[.slice ao r.1.length cap,.int .i64 r.2])∧Ivls w' ao r.1 cap b o∧Keeps w w'
def iv (m:Int→Int) (pre:List VDay):List Ivl:=ivsF m (pre.map (·.1))
theorem iv_snoc (m:Int→Int) (pre:List VDay) (x:VDay):iv m (pre ++ [x])=stepI m (iv m pre) x.1:=by unfold iv;rw [List.map_append];exact ivsF_snoc _ _ _
theorem stepI_len (m:Int→Int) (out:List Ivl) (d:Int):(stepI m out d).length≤out.length+1:=by
 unfold stepI
 cases h:out.getLast? with
 | none=>simp
 | some x=>
  simp only
  split
  ·omega
  ·have:0 < out.length:=by cases out with | nil=>simp at h | cons a b=>simp
   simp;omega
theorem iv_len (m:Int→Int):∀ pre:List VDay,(iv m pre).length≤pre.length:=by
 intro pre
 induction pre using snoc_indI with
 | h0=>exact Nat.le_refl _
 | h1 pre x ih=>
  rw [iv_snoc]
  have:=stepI_len m (iv m pre) x.1
  simp;omega
theorem iv_some (m:Int→Int) {pre:List VDay} (h:pre≠[]):∃ o x,iv m pre=o ++ [x]:=by
 obtain ⟨z,hz⟩:∃ z,(pre.map (·.1)).getLast?=some z:=⟨_,List.getLast?_eq_some_getLast (fun e=>h (List.map_eq_nil_iff.1 e))⟩
 obtain ⟨o,x,h1,_⟩:=ivsF_last (m:=m) hz
 exact ⟨o,x,h1⟩
theorem boxed_keepsK {a b:World} {B:Nat} {t:TypeId} {v:Value} (h:Boxed a B t v) (hk:Keeps a b):Boxed b B t v:=(hk.block B h.lt).trans h
structure BodyR (N B:Nat) (ty:TypeId) (A C:World):Prop where
 oth:KeepsOthers A C
 kty:KeepTy N B (B+1) ty A C
 bel:Below B A C
section
variable {N B:Nat} {ty:TypeId} {A C D:World}
theorem BodyR.refl (N B:Nat) (ty:TypeId) (A:World):BodyR N B ty A A:=⟨KeepsOthers.refl A,KeepTy.refl _ _ _ _ _,Below.refl _ _⟩
theorem BodyR.trans (h:BodyR N B ty A C) (k:BodyR N B ty C D):BodyR N B ty A D:=⟨h.oth.trans k.oth,h.kty.trans k.kty,h.bel.trans k.bel⟩
theorem BodyR.keeps (h:BodyR N B ty A C) (hN:N≤C.heap.size) (hB:B≤C.heap.size) (k:Keeps C D):BodyR N B ty A D:=
 ⟨h.oth.trans (KeepsOthers.of_grownBy (grownBy_of_keeps k) fun j o e=>by cases e),h.kty.keeps hN k,h.bel.trans (k.mono hB)⟩
theorem BodyR.alloc (h:BodyR N B ty A C) (hN:N≤C.heap.size) (hB:B≤C.heap.size) (o:Obj):BodyR N B ty A (C.alloc o):=h.keeps hN hB ((Keeps.refl C).alloc o)
theorem BodyR.box (h:BodyR N B ty A C) (v:Value):BodyR N B ty A (C.setCell ⟨B,0,none⟩ v):=
 ⟨h.oth.trans (KeepsOthers.setCell _ _ _),h.kty.setBox (p:=⟨B,0,none⟩) (Nat.le_refl _) (Nat.lt_succ_self _) v,h.bel.setCell (Nat.le_refl _) v⟩
theorem BodyR.grown (h:BodyR N B ty A C) {base size n:Nat} {v:Value} {xs:List Value} (ho:C.ownsRow base ty size v n xs) (hg:C.grownBy D v.ownBlock) (hN:N≤C.heap.size) (hb:N≤base) (hB:B < base) (hBC:B≤C.heap.size):BodyR N B ty A D:=by
 have hrow:∀ g,v.ownBlock=some g→base≤g∧∃ cs fr,C.heap[g]?=some (.cells cs ty fr):=fun g e=>by
  rcases ho.2 with ⟨rfl,_⟩ | ⟨g',cap,cur,rfl,hbg,hgb,_⟩
  ·cases e
  ·cases e;exact ⟨hbg,_,_,hgb⟩
 refine ⟨h.oth.trans (KeepsOthers.of_grownBy hg fun j o e hj=>?_),h.kty.grown hg hN fun g e=>⟨Nat.le_trans hb (hrow g e).1,(hrow g e).2⟩,h.bel.trans ⟨hg.os,hg.tape,hg.output,hg.size,fun k hk=>?_⟩⟩
 ·obtain ⟨_,cs,fr,h2⟩:=hrow j e
  rw [hj] at h2
  cases h2
  rfl
 ·exact hg.block k (by omega) fun e=>by have:=(hrow k e.symm).1;omega
end
theorem wpListIn_app_raw {F:Fence} {m:Nat} {P:Program} {w:World} {ops:Array Oper} {rest:List Oper} {o:Oper} {a:Act} {Q:Exit→Act→World→Prop} {t e:TypeId} {z:Value} {size bytes:Nat}
  (E:ElemOf P t e z size bytes) (hgd:o.guard=none) (s x:Operand) (ho:o.op=.call { callee:=.builtin .append,args:=#[s,x],argTypes:=#[t,t] })
  (v:Value) (n:Nat) (xs:List Value) (hs:a.eval s=v) (base:Nat) (hown:w.ownsRow base e size v n xs) (hbase:base≤w.heap.size)
  (news:List Value) (bx c:Nat) (hx:a.eval x=.slice (some ⟨bx,0,none⟩) 1 c) (hbx:bx=w.heap.size) (hl:news.length=size) (h1:∀ u∈news,u.oneCell'=true) (hbytes:(n+1) * bytes≤140737488355328) (h63:n+1≤9223372036854775807)
  (h:∀ v' w',w'.ownsRow base e size v' (n+1) (xs ++ news)→(w.alloc (.cells news.toArray e)).grownBy w' v.ownBlock→wpListIn F m P ops Q rest (a.put o.dst v') w') :
  wpListIn F m P ops Q (o :: rest) a (w.alloc (.cells news.toArray e)):=by
 subst hbx
 obtain ⟨i0,hi,hz0,hz1,hz2⟩:=info_parts E.info
 refine wpListIn_append_own _ hgd s x t ho base e i0 z size bytes E.ht hi hz0 hz1 hz2 E.zs E.sz v n xs hs (hown.alloc _) ⟨w.heap.size,0,none⟩ 1 c news hx (by omega) ?_ h1 (by unfold maxLen;omega) hbytes (by simp;omega) ?_
 ·intro j u hj
  rw [Addr.add_lit,Nat.zero_add,cell_of_row (w.alloc (.cells news.toArray e)) w.heap.size j news.toArray e (0,0) (heap_alloc_new w _)]
  simpa using hj
 ·intro v' w' hown' hgrow _
  exact h v' w' hown' hgrow
theorem matR'_ok {js:List Bool} {l:List Hol} {k:Nat} {d:Int} (hv:hvalidB (js.length:Int) l=true) (hd:dateB d=true) (hk:k < js.length):matR' js l (k:Int) d=(mAt js l k d,0):=by
 have h:=matR_3 hv hd
 rw [Int.toNat_natCast,matH_f0] at h
 have h2:methR js l d=(fnI (mthE (f0 l d) js) js.length,0):=by unfold methR;rw [h];simp
 unfold matR'
 rw [h2,if_pos rfl,if_pos (by omega)]
 rfl
theorem boxed_app {W w3:World} {B base:Nat} {t e:TypeId} {size:Nat} {v u:Value} {k:Nat} {xs:List Value} {tmp:Obj} (hv:Boxed W B t v) (hrow:W.ownsRow base e size u k xs) (hB:B < base) (hgrow:(W.alloc tmp).grownBy w3 u.ownBlock):Boxed w3 B t v:=
 (hv.alloc tmp).kept hgrow fun e=>by have:=(hrow.lt B e.symm).1;omega
theorem boxed_row {W:World} {B base:Nat} {t e:TypeId} {size g cap:Nat} {v u:Value} {n:Nat} {xs:List Value} (hv:Boxed W B t v) (hrow:W.ownsRow base e size (.slice (some ⟨g,0,none⟩) n cap) n xs) (hB:B < base) (j:Nat):Boxed (W.setCell ⟨g,j,none⟩ u) B t v:=
 (Below.heap_setCell W ⟨g,j,none⟩ u B (fun e=>by have:=(hrow.lt g rfl).1;simp at e;omega)).trans hv
theorem body_app {N B base:Nat} {t ty:TypeId} {size k m:Nat} {W W3 w4:World} {v v':Value} {xs ys:List Value} {tmp:Obj} (hR:BodyR N B ty W W3) (hbox:Boxed W3 B t v) (hrow:W3.ownsRow base ty size v k xs) (hown':w4.ownsRow base ty size v' m ys) (hgrow:(W3.alloc tmp).grownBy w4 v.ownBlock)
  (hBb:B < base) (hNb:N≤base) (hN:N≤W3.heap.size):Boxed w4 B t v∧BodyR N B ty W (w4.setCell ⟨B,0,none⟩ v')∧Boxed (w4.setCell ⟨B,0,none⟩ v') B t v'∧(w4.setCell ⟨B,0,none⟩ v').ownsRow base ty size v' m ys:=by
 have hb:=boxed_app hbox hrow hBb hgrow
 have hz:=hbox.lt
 exact ⟨hb,((hR.alloc hN (by omega) tmp).grown (hrow.alloc tmp) hgrow (by simp;omega) hNb hBb (by simp;omega)).box v',hb.set v',ownsRow_setCell_below hown' (by exact hBb) v'⟩
theorem body_row {N B base:Nat} {t ty:TypeId} {size k g cap:Nat} {W W3:World} {xs:List Value} (hR:BodyR N B ty W W3) (hbox:Boxed W3 B t (.slice (some ⟨g,0,none⟩) k cap)) (hrow:W3.ownsRow base ty size (.slice (some ⟨g,0,none⟩) k cap) k xs)
  (hBb:B < base) (hNb:N≤base) (hN:N≤W3.heap.size) (j:Nat) (u:Value):BodyR N B ty W (W3.setCell ⟨g,j,none⟩ u)∧Boxed (W3.setCell ⟨g,j,none⟩ u) B t (.slice (some ⟨g,0,none⟩) k cap)∧(W3.setCell ⟨g,j,none⟩ u).ownsRow base ty size (.slice (some ⟨g,0,none⟩) k cap) k (xs.set j u):=by
 have hz:=hbox.lt
 obtain ⟨h1,h2⟩:=hrow.stored j u
 exact ⟨hR.grown hrow h2 hN hNb hBb (by omega),boxed_row hbox hrow hBb j,h1⟩
theorem own_sl {w:World} {base e size n g cap:Nat} {xs:List Value} (h:w.ownsRow base e size (.slice (some ⟨g,0,none⟩) n cap) n xs):Sl w size (some ⟨g,0,none⟩) n cap g 0 xs:=by
 have h0:=h
 rcases h.2 with ⟨h',_⟩ | ⟨g',cap',cur,h',hb,hg,hn,hm,hs,ht⟩
 ·cases h'
 ·cases h'
  exact ⟨h.1,hn,(fun h=>by cases h),by unfold maxLen at hm;exact hm,fun _=>rfl,fun j u hu=>by
   have:=h0.cells (g:=g) rfl j u hu
   rwa [Addr.add_lit] at this⟩
theorem ivl_one (x:Ivl):∀ u∈x.cells,u.oneCell'=true:=by
 intro u hu
 simp only [Ivl.cells,List.mem_cons,List.not_mem_nil,or_false] at hu
 rcases hu with rfl | rfl | rfl <;> rfl
theorem ivl_last (o:List Ivl) (z:Ivl):((o ++ [z]).flatMap Ivl.cells)[o.length * 3+2]?=some (.int .i64 z.mth):=by
 have:=flat_get Ivl.len (o ++ [z]) o.length 2 (by simp) (by omega)
 rw [this]
 simp [Ivl.cells]
theorem ivl_last1 (o:List Ivl) (z:Ivl):((o ++ [z]).flatMap Ivl.cells)[o.length * 3+1]?=some (.int .i64 z.to):=by
 have:=flat_get Ivl.len (o ++ [z]) o.length 1 (by simp) (by omega)
 rw [this]
 simp [Ivl.cells]
theorem ivl_facts {w:World} {base g cg:Nat} {o:List Ivl} {z:Ivl} (h:w.ownsRow base 127 3 (.slice (some ⟨g,0,none⟩) (o.length+1) cg) (o.length+1) ((o ++ [z]).flatMap Ivl.cells)) :
  w.cell? ⟨g,o.length * 3+2,none⟩=some (.int .i64 z.mth)∧w.cell? ⟨g,o.length * 3+1,none⟩=some (.int .i64 z.to)∧w.frozen? ⟨g,o.length * 3+1,none⟩=false∧
   (∀ w',(Instr.indexAt 155 (.slice (some ⟨g,0,none⟩) (o.length+1) cg) (.int .i64 (o.length:Int))).run Tryz.prog w'=.ok (.pointer (some ⟨g,o.length * 3,none⟩)) w')∧cg≤9223372036854775807∧o.length+1≤cg∧g < w.heap.size:=by
 have hs:=own_sl h
 have hix:=hs.at Tryz.underlying155 Tryz.sizeOf127 o.length (Nat.lt_succ_self _)
 rw [Nat.zero_add] at hix
 exact ⟨(h.cellAt (o.length * 3+2) (by omega)).trans (ivl_last o z),(h.cellAt (o.length * 3+1) (by omega)).trans (ivl_last1 o z),h.frozenAt _,hix,hs.cap,hs.le,(h.lt g rfl).2⟩
structure IvB (G:Gc) (w W:World) (g:Value) (l:Value) (en:Int):Prop where
 b0:RowB W w.heap.size 29 (grpC G g)
 b1:Boxed W (w.heap.size+1) 32 l
 b2:Boxed W (w.heap.size+1+1) 3 (.int .i64 en)
 b3:Boxed W (w.heap.size+1+1+1) 155 (.slice none 0 0)
 b4:Boxed W (w.heap.size+1+1+1+1) 41 (.int .i64 0)
theorem IvB.new (G:Gc) (w:World) (g l:Value) (en:Int):IvB G w (((((w.alloc (.cells (grpC G g).toArray 29)).alloc (.cells #[l] 32)).alloc (.cells #[.int .i64 en] 3)).alloc (.cells #[.slice none 0 0] 155)).alloc (.cells #[.int .i64 0] 41)) g l en:=by
 have h1:=(((Boxed.new (w.alloc (.cells (grpC G g).toArray 29)) 32 l).alloc (.cells #[.int .i64 en] 3)).alloc (.cells #[.slice none 0 0] 155)).alloc (.cells #[.int .i64 0] 41)
 have h2:=((Boxed.new ((w.alloc (.cells (grpC G g).toArray 29)).alloc (.cells #[l] 32)) 3 (.int .i64 en)).alloc (.cells #[.slice none 0 0] 155)).alloc (.cells #[.int .i64 0] 41)
 have h3:=(Boxed.new (((w.alloc (.cells (grpC G g).toArray 29)).alloc (.cells #[l] 32)).alloc (.cells #[.int .i64 en] 3)) 155 (.slice none 0 0)).alloc (.cells #[.int .i64 0] 41)
 have h4:=Boxed.new ((((w.alloc (.cells (grpC G g).toArray 29)).alloc (.cells #[l] 32)).alloc (.cells #[.int .i64 en] 3)).alloc (.cells #[.slice none 0 0] 155)) 41 (.int .i64 0)
 simp only [World.size_alloc] at h1 h2 h3 h4
 exact ⟨((((RowB.new w 29 (grpC G g)).alloc _).alloc _).alloc _).alloc _,h1,h2,h3,h4⟩
theorem IvB.keeps {G:Gc} {w W W':World} {g l:Value} {en:Int} (h:IvB G w W g l en) (k:Keeps W W'):IvB G w W' g l en:=
 ⟨(k.block _ h.b0.lt).trans h.b0,boxed_keepsK h.b1 k,boxed_keepsK h.b2 k,boxed_keepsK h.b3 k,boxed_keepsK h.b4 k⟩
abbrev daysF:Nat:=185
set_option maxRecDepth 100000 in
theorem ivals_in (G:Gc) (js:List Bool) (l:List Hol) (xs:List Int) (hxs:IsDates l xs) (en:Int) (ao:Option Addr) (cap b o:Nat) (aol:Option Addr) (capl bl ol:Nat) (w:World) (HJ:Ents w ao js cap b o) (H:Hols w aol l capl bl ol) (hlen:l.length≤900) (hok:∀ x∈l,x.Ok) :
  CallsIn Fence.wide 5 Tryz.prog 152 #[.agg #[G.c0,G.c1,G.c2,G.c3,G.c4,G.c5,G.c6,G.c7,G.c8,G.c9,G.c10,G.c11,G.c12,G.c13,G.c14,G.c15,G.c16,G.c17,G.c18,G.c19,.slice ao js.length cap],.slice aol l.length capl,.int .i64 en] w (IvOut w (ivR js l xs en)):=by
 have hcap:=HJ.capE
 have hle:=HJ.leE
 have HHJ:=Lib.hid HJ
 have HH:=Lib.hid H
 obtain ⟨vd,hvd⟩:∃ vd,hvalidB (js.length:Int) l=vd:=⟨_,rfl⟩
 have HV:Hid (∀ W,Keeps w W→Calls Tryz.prog 39 #[.int .i64 (js.length:Int),.slice aol l.length capl] W fun e w'=>e=.returned (.bool vd)∧Keeps W w'):=Lib.hid (fun W hk=>by have:=hvalid_any (js.length:Int) aol l capl bl ol W (H.keeps hk) (by omega) hok;rw [hvd] at this;exact this)
 have hg1:Fence.wide.fn 39:=trivial
 have hg2:Fence.wide.fn 177:=trivial
 have hg3:Fence.wide.fn 178:=trivial
 have HO:=Lib.hid hok
 have HXS:=Lib.hid hxs
 clear HJ H hok hxs
 have hd1:(1:Nat)≤5:=by omega
 cases vd with
 | false=>
  have HQ:=Lib.hid (ivR_1 (xs:=xs) (entity:=en) hvd)
  clear hvd
  refine callsIn_of_wp_marks Tryz.func152 rfl trivial ?_ rfl
  simp only [Tryz.ntmps152,List.size_toArray,List.length_cons,List.length_nil,Nat.reduceAdd,Nat.reduceSub,Array.replicate_succ,Array.replicate_zero,List.push_toArray,List.append_toArray,List.nil_append,List.cons_append]
  gi_wp2_with (gi_at_call 39;(refine (callsIn_wide.2 (HV.out _ ((((((Keeps.refl w).alloc _).alloc _).alloc _).alloc _).alloc _))).mono ?_;rintro e w1 ⟨rfl,hk1⟩;have K1:=Lib.hid hk1;have HB:=Lib.hid ((IvB.new G w (.slice ao js.length cap) (.slice aol l.length capl) en).keeps hk1);have g1:=HB.out.b1.cell;have g2:=HB.out.b2.cell;have g3:=HB.out.b3.cell;have f3:=HB.out.b3.frozen;have g4:=HB.out.b4.cell;have f4:=HB.out.b4.frozen;have z4:=HB.out.b4.lt;have z3:=HB.out.b3.lt;have z2:=HB.out.b2.lt;have z1:=HB.out.b1.lt;clear hk1))
  exact ⟨_,results_cell_cell (va:=.slice none 0 0) (vb:=.int .i64 1) rfl _ _ rfl rfl (by go_simp) (by go_simp),none,0,0,0,by rw [HQ.out];rfl,by rw [HQ.out];exact Sl.nil _ _,(((((((Keeps.refl w).alloc _).alloc _).alloc _).alloc _).alloc _).trans K1.out |>.setCell (p:=⟨w.heap.size+1+1+1,0,none⟩) (by simp;omega) _ |>.setCell (p:=⟨w.heap.size+1+1+1+1,0,none⟩) (by simp;omega) _)⟩
 | true=>
  by_cases hr:0≤en∧en < (js.length:Int)
  ·by_cases h0:en=0
   ·subst h0
    have HQ:=Lib.hid (ivR_3 (xs:=xs) hvd hr rfl)
    have e2:decide (js=[])=false:=decide_eq_false (fun e=>by rw [e] at hr;simp at hr)
    clear hvd hr
    refine callsIn_of_wp_marks Tryz.func152 rfl trivial ?_ rfl
    simp only [Tryz.ntmps152,List.size_toArray,List.length_cons,List.length_nil,Nat.reduceAdd,Nat.reduceSub,Array.replicate_succ,Array.replicate_zero,List.push_toArray,List.append_toArray,List.nil_append,List.cons_append]
    gi_wp2_with (gi_at_call 39;(refine (callsIn_wide.2 (HV.out _ ((((((Keeps.refl w).alloc _).alloc _).alloc _).alloc _).alloc _))).mono ?_;rintro e w1 ⟨rfl,hk1⟩;have K1:=Lib.hid hk1;have HB:=Lib.hid ((IvB.new G w (.slice ao js.length cap) (.slice aol l.length capl) 0).keeps hk1);have g1:=HB.out.b1.cell;have g2:=HB.out.b2.cell;have g3:=HB.out.b3.cell;have f3:=HB.out.b3.frozen;have g4:=HB.out.b4.cell;have f4:=HB.out.b4.frozen;have z4:=HB.out.b4.lt;have z3:=HB.out.b3.lt;have z2:=HB.out.b2.lt;have z1:=HB.out.b1.lt;clear hk1))
    refine ⟨_,results_cell_cell (va:=.slice (some ⟨w1.heap.size,0,none⟩) 1 1) (vb:=.int .i64 0) rfl _ _ rfl rfl (by go_simp) (by go_simp),some ⟨w1.heap.size,0,none⟩,1,w1.heap.size,0,by rw [HQ.out];rfl,?_,?_⟩
    ·rw [HQ.out]
     exact Sl.block rfl (fun j u hj=>by rcases j with _ | _ | _ | j <;> simp [Ivl.cells] at hj <;> subst hj <;> go_simp)
    ·exact ((((((((Keeps.refl w).alloc _).alloc _).alloc _).alloc _).alloc _).trans K1.out |>.setCell (p:=⟨w.heap.size+1+1+1,0,none⟩) (by simp;omega) _ |>.setCell (p:=⟨w.heap.size+1+1+1+1,0,none⟩) (by simp;omega) _)).alloc _
   ·have HQ:=Lib.hid (ivR_4 (xs:=xs) hvd hr h0)
    have e1:decide (en < 0)=false:=decide_eq_false (by omega)
    have e2:decide ((js.length:Int)≤en)=false:=decide_eq_false (by omega)
    have e3:(en == 0)=false:=by simpa using h0
    refine callsIn_of_wp_marks Tryz.func152 rfl trivial ?_ rfl
    simp only [Tryz.ntmps152,List.size_toArray,List.length_cons,List.length_nil,Nat.reduceAdd,Nat.reduceSub,Array.replicate_succ,Array.replicate_zero,List.push_toArray,List.append_toArray,List.nil_append,List.cons_append]
    gi_wp2_with (first | (gi_at_call 39;(refine (callsIn_wide.2 (HV.out _ ((((((Keeps.refl w).alloc _).alloc _).alloc _).alloc _).alloc _))).mono ?_;rintro e w1 ⟨rfl,hk1⟩;have K1:=Lib.hid hk1;have HB:=Lib.hid ((IvB.new G w (.slice ao js.length cap) (.slice aol l.length capl) en).keeps hk1);have g1:=HB.out.b1.cell;have g2:=HB.out.b2.cell;have g3:=HB.out.b3.cell;have f3:=HB.out.b3.frozen;have g4:=HB.out.b4.cell;have f4:=HB.out.b4.frozen;have z4:=HB.out.b4.lt;have z3:=HB.out.b3.lt;have z2:=HB.out.b2.lt;have z1:=HB.out.b1.lt;clear hk1)) | (gi_at_call 177;refine (days_in Fence.wide _ trivial rfl _ _ _ _).mono ?_;rintro en' w' ⟨rfl,rfl⟩))
    obtain ⟨k,rfl⟩:∃ k:Nat,en=(k:Int):=⟨en.toNat,by omega⟩
    obtain ⟨m,hm⟩:∃ m,mAt js l k=m:=⟨_,rfl⟩
    rw [Int.toNat_natCast,hm] at HQ
    have HMT:Hid (∀ d,dateB d=true→matR' js l (k:Int) d=(m d,0)):=Lib.hid (fun d hd=>by rw [← hm];exact matR'_ok hvd hd (by omega))
    have HDT:Hid (∀ x∈l,dateB x.date=true):=Lib.hid (fun x hx=>(properB_true ((hvalidB_iff.1 hvd).2.1 x hx)).2.2.2.2.2.1)
    have hkl:k < js.length:=by omega
    clear hvd hr h0 hm e1 e2 e3
    have hb1:=HB.out.b1
    obtain ⟨W0,hW0⟩:∃ W0,(w1.alloc (.cells #[.slice none 0 0] 155)).alloc (.cells #[.slice aol l.length capl] 32)=W0:=⟨_,rfl⟩
    have bO:Boxed W0 w1.heap.size 155 (.slice none 0 0):=by rw [← hW0];exact (Boxed.new w1 _ _).alloc _
    have cL:W0.cell? ⟨w1.heap.size+1,0,none⟩=some (.slice aol l.length capl):=by rw [← hW0];have:=(Boxed.new (w1.alloc (.cells #[.slice none 0 0] 155)) 32 (.slice aol l.length capl)).cell;rwa [World.size_alloc] at this
    have hs1:w1.heap.size+2≤W0.heap.size:=by rw [← hW0];simp
    have hs2:W0.heap.size≤w1.heap.size+2:=by rw [← hW0];simp
    have hK0:Keeps w1 W0:=by rw [← hW0];exact ((Keeps.refl w1).alloc _).alloc _
    have hH1:Hols w1 aol l capl bl ol:=HH.out.keeps ((((((Keeps.refl w).alloc _).alloc _).alloc _).alloc _).alloc _ |>.trans K1.out)
    rw [hW0]
    clear hW0
    refine wpIn_rangeFunc_ownH rfl (by omega) (gf:=185) (lb:=#[.pointer (some ⟨w1.heap.size+1,0,none⟩)]) rfl trivial (enters_of Tryz.func185 (by kernel_rfl) rfl)
     (days_stops 4 (by omega) (w1.heap.size+1) w1.heap.size (w1.heap.size+1) 127 (by decide) aol l capl bl ol hlen (fun x hx=>(HO.out x hx).2.2.1) HDT.out w1 hH1 W0 (by omega) (Nat.le_refl _) (Nat.le_refl _) (by omega) hK0 cL)
     (fun h k=>h.trans k) (fun W l o o' hl ho hc _=>KeepTy.putObj W l o o' hl ho hc) (Below.refl _ _) (fun _=>rfl)
     (fun pre W=>(∃ v,Boxed W w1.heap.size 155 v∧W.ownsRow (w1.heap.size+2) 127 3 v (iv m pre).length ((iv m pre).flatMap Ivl.cells)∧(pre=[]→v=.slice none 0 0))∧(Below w1.heap.size w1 W∧W0.heap.size≤W.heap.size))
     (fun _ _ _=>False)
     (OwnFrom.and (Own.from (holdsRow_own (w1.heap.size+2) w1.heap.size 155 127 3 (fun pre=>(iv m pre).length) (fun pre=>(iv m pre).flatMap Ivl.cells) (fun pre v=>pre=[]→v=.slice none 0 0)) _) (OwnFrom.and (ownFrom_below (Nat.le_refl _) (by omega)) (fun s X Y row hs hg hr=>Nat.le_trans hs hg.size)))
     (fun _ _ _ _ _ hs _ _=>hs)
     ⟨⟨_,bO,World.ownsRow_nil _ _ _ _,fun _=>rfl⟩,hK0,Nat.le_refl _⟩
     (fun x a' W=>a'={ tmps:=#[.agg #[G.c0,G.c1,G.c2,G.c3,G.c4,G.c5,G.c6,G.c7,G.c8,G.c9,G.c10,G.c11,G.c12,G.c13,G.c14,G.c15,G.c16,G.c17,G.c18,G.c19,.slice ao js.length cap],.slice aol l.length capl,.int .i64 (k:Int),.pointer (some ⟨w.heap.size,0,none⟩),.pointer (some ⟨w.heap.size+1,0,none⟩),.pointer (some ⟨w.heap.size+1+1,0,none⟩),.pointer (some ⟨w.heap.size+1+1+1,0,none⟩),.pointer (some ⟨w.heap.size+1+1+1+1,0,none⟩),.int .i64 (js.length:Int),.pointer (some ⟨w1.heap.size,0,none⟩),.int .i64 x.1,undef,undef,undef,.pointer (some ⟨w.heap.size,20,none⟩),.slice ao js.length cap,.int .i64 (js.length:Int),.int .i64 (js.length:Int),.slice aol l.length capl,.bool true,.bool false,.int .i64 (k:Int),.bool false,.bool false,.int .i64 (k:Int),.int .i64 (js.length:Int),.bool false,.bool false,.int .i64 (k:Int),.bool false,undef,undef,.slice aol l.length capl,.func (.func daysF) #[] #[.pointer (some ⟨w1.heap.size+1,0,none⟩)],.int .i64 x.1,undef,undef,undef,undef,undef,undef,undef,undef,undef,undef,undef,undef,undef,undef,undef,undef,undef,undef,undef,undef,undef,undef,undef,undef,undef,undef,undef,undef,undef,undef,undef,undef,undef,undef,undef,undef,undef,undef,undef,undef],defers:=[] })
     (fun x a' _ X Y row hs hg hr=>hs)
     ?assign ?body ?done ?stop
    case assign=>
     rintro lb pre x W K hI hK
     gi_wp2
     exact hK _ _ (KeepsFrom.refl _ _) (KeepTy.refl _ _ _ _ _) hI rfl
    case body=>
     rintro lb pre x a' W hlb ⟨r,hr⟩ ⟨⟨v,hbox,hrow,hnil⟩,⟨hbel,hsz⟩⟩ rfl hlt
     have HM0:=met_any G js l (k:Int) x.1 ao cap b o aol capl bl ol W (HHJ.out.keeps ((((((Keeps.refl w).alloc _).alloc _).alloc _).alloc _).alloc _ |>.trans K1.out |>.trans hbel)) (hH1.keeps hbel) hlen HO.out
     rw [HMT.out x.1 x.2] at HM0
     have HM:=Lib.hid HM0
     have HB2:=Lib.hid (HB.out.keeps hbel)
     have hrg:=HB2.out.b0.range
     have g1':=HB2.out.b1.cell
     have g2':=HB2.out.b2.cell
     have HI:=Lib.hid (And.intro hbox (And.intro hrow (And.intro hnil (And.intro hbel hsz))))
     have hN1:=HI.out.2.2.2.2
     have hpl:=iv_len m pre
     clear HM0 hr hbox hrow hbel hnil
     by_cases hp:pre=[]
     ·obtain rfl:=HI.out.2.2.1 hp
      subst hp
      gi_wp2_with (first | (refine wpListIn_load_mid rfl 29 _ rfl w.heap.size 0 rfl (grpC G (.slice ao js.length cap)) _ hrg Tryz.underlying29 rfl groupSize ?_) | (gi_at_call 178;(refine (callsIn_wide.2 HM.out).mono ?_);rintro e2 w2 ⟨rfl,hk2⟩;have hb2:=boxed_keepsK HI.out.1 hk2;have hc2:=hb2.cell;have hf2:=hb2.frozen;have hz2:=hb2.lt;have HR2:=Lib.hid (own_keepsH HI.out.2.1 hk2);have HBX:=Lib.hid hb2;have hsz2:=hk2.size;have HBR:=Lib.hid ((BodyR.refl W0.heap.size w1.heap.size 127 W).keeps hN1 (by omega) hk2);clear hk2 hb2) | (gi_at_builtin;refine wpListIn_app_raw elemIvl rfl _ _ rfl _ 0 [] rfl (w1.heap.size+2) (World.ownsRow_nil _ _ _ _) (by omega) (Ivl.cells ⟨x.1,84006,m x.1⟩) _ _ rfl (by simp) rfl (ivl_one _) (by omega) (by omega) ?_;intro v4 w4 hown4 hgrow4;obtain ⟨g4,cap4,rfl⟩:=ownsRow_succ hown4;have HA:=Lib.hid (body_app HBR.out HBX.out (World.ownsRow_nil _ _ _ _) hown4 hgrow4 (by omega) hs2 (by omega));have hc4:=HA.out.1.cell;have hf4:=HA.out.1.frozen;have hz4:=HA.out.1.lt;clear hown4 hgrow4))
      exact ⟨HA.out.2.1.oth.from _,HA.out.2.1.kty,⟨⟨_,HA.out.2.2.1,HA.out.2.2.2,fun h=>by simp at h⟩,HI.out.2.2.2.1.trans HA.out.2.1.bel,Nat.le_trans hN1 HA.out.2.1.bel.size⟩⟩
     ·obtain ⟨o1,z,hiv⟩:=iv_some m hp
      have hpl1:o1.length+1≤l.length:=by rw [hiv] at hpl;simp at hpl;omega
      have hrow0:=HI.out.2.1
      rw [hiv,List.length_append,List.length_singleton] at hrow0
      obtain ⟨g,cg,rfl⟩:=ownsRow_succ hrow0
      have HIV:=Lib.hid hiv
      have hgb:=(hrow0.lt g rfl).1
      have HROW:=Lib.hid hrow0
      have hk0:decide (0 < (o1.length:Int)+1)=true:=decide_eq_true (by omega)
      clear hiv hrow0
      by_cases hz:z.mth=m x.1
      ·have hze:(z.mth == m x.1)=true:=by simpa using hz
       have HNX:Hid (iv m (pre ++ [x])=o1 ++ [z]):=Lib.hid (by rw [iv_snoc,HIV.out];exact stepI_same hz)
       gi_wp2_with (first | (refine wpListIn_load_mid rfl 29 _ rfl w.heap.size 0 rfl (grpC G (.slice ao js.length cap)) _ hrg Tryz.underlying29 rfl groupSize ?_) | (gi_at_call 178;(refine (callsIn_wide.2 HM.out).mono ?_);rintro e2 w2 ⟨rfl,hk2⟩;have hb2:=boxed_keepsK HI.out.1 hk2;have hc2:=hb2.cell;have hf2:=hb2.frozen;have hz2:=hb2.lt;have hr2:=own_keepsH HROW.out hk2;obtain ⟨c22,c21,f51,hix,hcg,hlg,hlt2⟩:=ivl_facts hr2;have hne:g≠w1.heap.size:=(fun e=>by rw [e] at hgb;omega);have HR2:=Lib.hid hr2;have HBX:=Lib.hid hb2;have hsz2:=hk2.size;have HBR:=Lib.hid ((BodyR.refl W0.heap.size w1.heap.size 127 W).keeps hN1 (by omega) hk2);have HST:=Lib.hid (body_row HBR.out HBX.out hr2 (by omega) hs2 (by omega) (o1.length * 3+1) (.int .i64 x.1));clear hk2 hb2 hr2))
       exact ⟨HBR.out.oth.from _,HBR.out.kty,⟨⟨_,HBX.out,by rw [HNX.out,List.length_append];exact HR2.out,fun h=>by simp at h⟩,HI.out.2.2.2.1.trans HBR.out.bel,Nat.le_trans hN1 HBR.out.bel.size⟩⟩
      ·have hze:(z.mth == m x.1)=false:=by simpa using hz
       have HNX:Hid (iv m (pre ++ [x])=o1 ++ [endsAt z x.1] ++ [⟨x.1,84006,m x.1⟩]):=Lib.hid (by rw [iv_snoc,HIV.out];exact stepI_new hz)
       gi_wp2_with (first | (refine wpListIn_load_mid rfl 29 _ rfl w.heap.size 0 rfl (grpC G (.slice ao js.length cap)) _ hrg Tryz.underlying29 rfl groupSize ?_) | (gi_at_call 178;(refine (callsIn_wide.2 HM.out).mono ?_);rintro e2 w2 ⟨rfl,hk2⟩;have hb2:=boxed_keepsK HI.out.1 hk2;have hc2:=hb2.cell;have hf2:=hb2.frozen;have hz2:=hb2.lt;have hr2:=own_keepsH HROW.out hk2;obtain ⟨c22,c21,f51,hix,hcg,hlg,hlt2⟩:=ivl_facts hr2;have hne:g≠w1.heap.size:=(fun e=>by rw [e] at hgb;omega);have HR2:=Lib.hid hr2;have HBX:=Lib.hid hb2;have hsz2:=hk2.size;have HBR:=Lib.hid ((BodyR.refl W0.heap.size w1.heap.size 127 W).keeps hN1 (by omega) hk2);have HST:=Lib.hid (body_row HBR.out HBX.out hr2 (by omega) hs2 (by omega) (o1.length * 3+1) (.int .i64 x.1));clear hk2 hb2 hr2) | (gi_at_builtin;refine wpListIn_app_raw elemIvl rfl _ _ rfl _ (o1.length+1) ((o1 ++ [endsAt z x.1]).flatMap Ivl.cells) rfl (w1.heap.size+2) (by have:=HST.out.2.2;rw [flat_endsAt] at this;exact this) (by simp [World.setCell];omega) (Ivl.cells ⟨x.1,84006,m x.1⟩) _ _ rfl (by simp [World.setCell]) rfl (ivl_one _) (by omega) (by omega) ?_;intro v4 w4 hown4 hgrow4;obtain ⟨g4,cap4,rfl⟩:=ownsRow_succ hown4;have HA:=Lib.hid (body_app HST.out.1 HST.out.2.1 HST.out.2.2 hown4 hgrow4 (by omega) hs2 (by simp [World.setCell];omega));have hc4:=HA.out.1.cell;have hf4:=HA.out.1.frozen;have hz4:=HA.out.1.lt;clear hown4 hgrow4))
       exact ⟨HA.out.2.1.oth.from _,HA.out.2.1.kty,⟨⟨_,HA.out.2.2.1,by rw [HNX.out,List.length_append,List.length_append,List.flatMap_append (xs:=o1 ++ [endsAt z x.1])];simpa [List.flatMap] using HA.out.2.2.2,fun h=>by simp at h⟩,HI.out.2.2.2.1.trans HA.out.2.1.bel,Nat.le_trans hN1 HA.out.2.1.bel.size⟩⟩
    case done=>
     rintro D ys W hD ⟨zs,hzs,rfl⟩ ⟨⟨v,hbox,hrow,hnil⟩,⟨hbel,hsz⟩⟩ hK
     obtain rfl:=hzs.eq HXS.out
     have hvv:∀ d∈sdays zs,dateB d=true:=fun d hd=>by
      rcases List.mem_cons.1 hd with rfl | hd
      ·rfl
      ·obtain ⟨y,hy,rfl⟩:=(hzs.2 d).1 (List.mem_filter.1 hd).1
       exact HDT.out y hy
     have hiv:iv m (vdays (sdays zs))=ivsF m (sdays zs):=by unfold iv;rw [vdays_val hvv]
     obtain ⟨o1,z,ho⟩:=iv_some m (pre:=vdays (sdays zs)) (fun e=>by
      have:=vdays_val hvv
      rw [e] at this
      exact sdays_ne zs this.symm)
     rw [ho] at hrow
     rw [hiv] at ho
     rw [ho] at HQ
     rw [List.length_append,List.length_singleton] at hrow
     obtain ⟨g,cg,rfl⟩:=ownsRow_succ hrow
     have HB3:=Lib.hid (HB.out.keeps hbel)
     have c9:=hbox.cell
     have c3:=HB3.out.b3.cell
     have q3:=HB3.out.b3.frozen
     have c4:=HB3.out.b4.cell
     have q4:=HB3.out.b4.frozen
     have HROW:=Lib.hid hrow
     have HBEL:=Lib.hid hbel
     clear hiv ho hnil hzs hvv hrow hbel
     gi_wp2
     have hK':((W.setCell ⟨w.heap.size+1+1+1,0,none⟩ (.slice (some ⟨g,0,none⟩) (o1.length+1) cg)).setCell ⟨w.heap.size+1+1+1+1,0,none⟩ (.int .i64 0)).heap[D]?=some (.deferred (some [])):=
      (Below.heap_setCell _ _ _ D (by simp;omega)).trans ((Below.heap_setCell _ _ _ D (by simp;omega)).trans hK)
     refine ⟨by simp,.inl ⟨_,_,rfl,run_takeDeferred hK',?_⟩⟩
     have hrow2:=ownsRow_putObj (ownsRow_setCell_below (ownsRow_setCell_below HROW.out (a:=⟨w.heap.size+1+1+1,0,none⟩) (by show w.heap.size+1+1+1 < _;omega) (.slice (some ⟨g,0,none⟩) (o1.length+1) cg)) (a:=⟨w.heap.size+1+1+1+1,0,none⟩) (by show w.heap.size+1+1+1+1 < _;omega) (.int .i64 0)) (.deferred none) hK' rfl
     have p3:((W.setCell ⟨w.heap.size+1+1+1,0,none⟩ (.slice (some ⟨g,0,none⟩) (o1.length+1) cg)).setCell ⟨w.heap.size+1+1+1+1,0,none⟩ (.int .i64 0)).cell? ⟨w.heap.size+1+1+1,0,none⟩=some (.slice (some ⟨g,0,none⟩) (o1.length+1) cg):=by go_simp
     have p4:((W.setCell ⟨w.heap.size+1+1+1,0,none⟩ (.slice (some ⟨g,0,none⟩) (o1.length+1) cg)).setCell ⟨w.heap.size+1+1+1+1,0,none⟩ (.int .i64 0)).cell? ⟨w.heap.size+1+1+1+1,0,none⟩=some (.int .i64 0):=by go_simp
     have hkk:Keeps w W:=((((((Keeps.refl w).alloc _).alloc _).alloc _).alloc _).alloc _ |>.trans K1.out |>.trans HBEL.out)
     have hkx:Below w.heap.size w ((W.setCell ⟨w.heap.size+1+1+1,0,none⟩ (.slice (some ⟨g,0,none⟩) (o1.length+1) cg)).setCell ⟨w.heap.size+1+1+1+1,0,none⟩ (.int .i64 0)):=(hkk.setCell (p:=⟨w.heap.size+1+1+1,0,none⟩) (by simp;omega) _).setCell (p:=⟨w.heap.size+1+1+1+1,0,none⟩) (by simp;omega) _
     obtain ⟨X,hX⟩:∃ X,((W.setCell ⟨w.heap.size+1+1+1,0,none⟩ (.slice (some ⟨g,0,none⟩) (o1.length+1) cg)).setCell ⟨w.heap.size+1+1+1+1,0,none⟩ (.int .i64 0))=X:=⟨_,rfl⟩
     rw [hX] at p3 p4 hkx hrow2 hK' ⊢
     have r3:=(World.cell?_of_block (w':=X.putObj D (.deferred none)) (a:=⟨w.heap.size+1+1+1,0,none⟩) (World.putObj_heap_other (by show w.heap.size+1+1+1≠D;omega))).trans p3
     have r4:=(World.cell?_of_block (w':=X.putObj D (.deferred none)) (a:=⟨w.heap.size+1+1+1+1,0,none⟩) (World.putObj_heap_other (by show w.heap.size+1+1+1+1≠D;omega))).trans p4
     refine ⟨_,results_cell_cell (va:=.slice (some ⟨g,0,none⟩) (o1.length+1) cg) (vb:=.int .i64 0) rfl _ _ rfl rfl (by go_simp) (by go_simp),some ⟨g,0,none⟩,cg,g,0,by rw [HQ.out];simp,by rw [HQ.out];exact own_sl (by simpa using hrow2),?_⟩
     exact Below.trans hkx (belowK_b (w:=w) (Nat.le_refl _) X D _ _ (by omega) hK' rfl rfl)
    case stop=>
     rintro D c pre W _ _ h _
     exact h.elim
  ·have HQ:=Lib.hid (ivR_2 (xs:=xs) hvd hr)
   by_cases h1:en < 0
   ·have e1:decide (en < 0)=true:=decide_eq_true h1
    clear hvd hr
    refine callsIn_of_wp_marks Tryz.func152 rfl trivial ?_ rfl
    simp only [Tryz.ntmps152,List.size_toArray,List.length_cons,List.length_nil,Nat.reduceAdd,Nat.reduceSub,Array.replicate_succ,Array.replicate_zero,List.push_toArray,List.append_toArray,List.nil_append,List.cons_append]
    gi_wp2_with (gi_at_call 39;(refine (callsIn_wide.2 (HV.out _ ((((((Keeps.refl w).alloc _).alloc _).alloc _).alloc _).alloc _))).mono ?_;rintro e w1 ⟨rfl,hk1⟩;have K1:=Lib.hid hk1;have HB:=Lib.hid ((IvB.new G w (.slice ao js.length cap) (.slice aol l.length capl) en).keeps hk1);have g1:=HB.out.b1.cell;have g2:=HB.out.b2.cell;have g3:=HB.out.b3.cell;have f3:=HB.out.b3.frozen;have g4:=HB.out.b4.cell;have f4:=HB.out.b4.frozen;have z4:=HB.out.b4.lt;have z3:=HB.out.b3.lt;have z2:=HB.out.b2.lt;have z1:=HB.out.b1.lt;clear hk1))
    exact ⟨_,results_cell_cell (va:=.slice none 0 0) (vb:=.int .i64 2) rfl _ _ rfl rfl (by go_simp) (by go_simp),none,0,0,0,by rw [HQ.out];rfl,by rw [HQ.out];exact Sl.nil _ _,(((((((Keeps.refl w).alloc _).alloc _).alloc _).alloc _).alloc _).trans K1.out |>.setCell (p:=⟨w.heap.size+1+1+1,0,none⟩) (by simp;omega) _ |>.setCell (p:=⟨w.heap.size+1+1+1+1,0,none⟩) (by simp;omega) _)⟩
   ·have e1:decide (en < 0)=false:=decide_eq_false h1
    have e2:decide ((js.length:Int)≤en)=true:=decide_eq_true (by omega)
    clear hvd hr
    refine callsIn_of_wp_marks Tryz.func152 rfl trivial ?_ rfl
    simp only [Tryz.ntmps152,List.size_toArray,List.length_cons,List.length_nil,Nat.reduceAdd,Nat.reduceSub,Array.replicate_succ,Array.replicate_zero,List.push_toArray,List.append_toArray,List.nil_append,List.cons_append]
    gi_wp2_with (gi_at_call 39;(refine (callsIn_wide.2 (HV.out _ ((((((Keeps.refl w).alloc _).alloc _).alloc _).alloc _).alloc _))).mono ?_;rintro e w1 ⟨rfl,hk1⟩;have K1:=Lib.hid hk1;have HB:=Lib.hid ((IvB.new G w (.slice ao js.length cap) (.slice aol l.length capl) en).keeps hk1);have g1:=HB.out.b1.cell;have g2:=HB.out.b2.cell;have g3:=HB.out.b3.cell;have f3:=HB.out.b3.frozen;have g4:=HB.out.b4.cell;have f4:=HB.out.b4.frozen;have z4:=HB.out.b4.lt;have z3:=HB.out.b3.lt;have z2:=HB.out.b2.lt;have z1:=HB.out.b1.lt;clear hk1))
    exact ⟨_,results_cell_cell (va:=.slice none 0 0) (vb:=.int .i64 2) rfl _ _ rfl rfl (by go_simp) (by go_simp),none,0,0,0,by rw [HQ.out];rfl,by rw [HQ.out];exact Sl.nil _ _,(((((((Keeps.refl w).alloc _).alloc _).alloc _).alloc _).alloc _).trans K1.out |>.setCell (p:=⟨w.heap.size+1+1+1,0,none⟩) (by simp;omega) _ |>.setCell (p:=⟨w.heap.size+1+1+1+1,0,none⟩) (by simp;omega) _)⟩
theorem ivals_any (G:Gc) (js:List Bool) (l:List Hol) (xs:List Int) (hxs:IsDates l xs) (en:Int) (ao:Option Addr) (cap b o:Nat) (aol:Option Addr) (capl bl ol:Nat) (w:World) (HJ:Ents w ao js cap b o) (H:Hols w aol l capl bl ol) (hlen:l.length≤900) (hok:∀ x∈l,x.Ok) :
  Calls Tryz.prog 152 #[.agg #[G.c0,G.c1,G.c2,G.c3,G.c4,G.c5,G.c6,G.c7,G.c8,G.c9,G.c10,G.c11,G.c12,G.c13,G.c14,G.c15,G.c16,G.c17,G.c18,G.c19,.slice ao js.length cap],.slice aol l.length capl,.int .i64 en] w (IvOut w (ivR js l xs en)):=
 (callsIn_wide (n:=5)).1 (ivals_in G js l xs hxs en ao cap b o aol capl bl ol w HJ H hlen hok)
end Go.Proofs.YtoaidbhiciaeaaaGreat

end
