/- Walks and plain facts that the claim rests on (App2, CalP, HolP). No condition. -/
import Derived.WalkKit
import Derived.WalkLawsBesides
import Derived.Lib.Hide
import Derived.Deep.Draws
import Derived.Maps.AppendAt
set_option linter.unusedSimpArgs false
set_option linter.unusedVariables false
set_option maxHeartbeats 16000000
section
namespace Go.Proofs.YtoaidbhiciaeaaaGreat
open Go.RowKit
structure Sl (w:World) (sz:Nat) (ao:Option Addr) (n cap b o:Nat) (cs:List Value):Prop where
 len:cs.length=n * sz
 le:n≤cap
 nocap:ao=none→cap=0
 cap:cap≤9223372036854775807
 addr:0 < n→ao=some ⟨b,o,none⟩
 cell:∀ j u,cs[j]?=some u→w.cell? ⟨b,o+j,none⟩=some u
theorem Sl.int {w:World} {ao:Option Addr} {cap b o:Nat} {k:IntKind} {zs:List Int} (H:Sl w 1 ao zs.length cap b o (zs.map (.int k))) (j:Nat) (hj:j < zs.length) :
  w.cell? ⟨b,o+j,none⟩=some (.int k zs[j]):=H.cell j _ (by simp [hj])
theorem Sl.drewN {w:World} {sz:Nat} {ao:Option Addr} {n cap b o:Nat} {cs:List Value} (H:Sl w sz ao n cap b o cs) (q:Nat):Sl (w.drewN q) sz ao n cap b o cs:=
 ⟨H.len,H.le,H.nocap,H.cap,H.addr,H.cell⟩
theorem take_snoc {α:Type} (l:List α) (k:Nat) (h:k < l.length):l.take (k+1)=l.take k ++ [l[k]]:=by
 rw [List.take_succ_eq_append_getElem h]
theorem ret1 {k:IntKind} {a b:Int} (h:a=b):Ending.returned (.int k a)=.returned (.int k b):=by rw [h]
theorem retb {a b:Bool} (h:a=b):Ending.returned (.bool a)=.returned (.bool b):=by rw [h]
def Keeps (w w':World):Prop:=Below w.heap.size w w'
theorem Keeps.refl (w:World):Keeps w w:=Below.refl _ _
theorem Keeps.trans {a b c:World} (h:Keeps a b) (k:Keeps b c):Keeps a c:=Below.trans h (k.mono h.size)
theorem Keeps.drewN {a b:World} (h:Keeps a b) (n:Nat):Keeps a (b.drewN n):=below_drewN h n
theorem Keeps.alloc {a b:World} (h:Keeps a b) (o:Obj):Keeps a (b.alloc o):=Below.alloc h h.size o
theorem Keeps.setCell {a b:World} (h:Keeps a b) {p:Addr} (hp:a.heap.size≤p.block) (v:Value):Keeps a (b.setCell p v):=Below.setCell h hp v
theorem Keeps.drew {a b:World} (h:Keeps a b):Keeps a b.drew:=below_drewN h 1
theorem Keeps.cell {a b:World} (h:Keeps a b) {p:Addr} {v:Value} (hc:a.cell? p=some v):b.cell? p=some v:=
 (Below.cell h (World.block_lt_of_cell? a p hc)).trans hc
theorem Keeps.frz {a b:World} (h:Keeps a b) {p:Addr} {v:Value} (hc:a.cell? p=some v) (hf:a.frozen? p=false):b.frozen? p=false:=
 (Below.frozen h (World.block_lt_of_cell? a p hc)).trans hf
theorem Sl.keeps {w w':World} {sz:Nat} {ao:Option Addr} {n cap b o:Nat} {cs:List Value} (H:Sl w sz ao n cap b o cs) (h:Keeps w w'):Sl w' sz ao n cap b o cs:=
 ⟨H.len,H.le,H.nocap,H.cap,H.addr,fun j u hu=>h.cell (H.cell j u hu)⟩
theorem Sl.nil (w:World) (sz:Nat):Sl w sz none 0 0 0 0 []:=⟨by simp,Nat.le_refl _,fun _=>rfl,by omega,fun h=>absurd h (Nat.lt_irrefl _),fun j u hu=>by simp at hu⟩
theorem Sl.own {w:World} {base e size n:Nat} {v:Value} {xs:List Value} (h:w.ownsRow base e size v n xs) :
  ∃ ao cap b,v=.slice ao n cap∧Sl w size ao n cap b 0 xs:=by
 rcases h.2 with ⟨rfl,rfl⟩ | ⟨g,cap,cur,rfl,hb,hg,hn,hm,hs,ht⟩
 ·have:xs=[]:=List.eq_nil_of_length_eq_zero (by simpa using h.1)
  subst this
  exact ⟨none,0,0,rfl,Sl.nil w size⟩
 ·refine ⟨_,cap,g,rfl,h.1,hn,(fun h=>by cases h),by unfold maxLen at hm;exact hm,fun _=>rfl,fun j u hu=>?_⟩
  have:=h.cells (g:=g) rfl j u hu
  rwa [Addr.add_lit] at this
def OutL (w:World) (xs:List Int) (er:Int) (e:Ending) (w':World):Prop:=
 ∃ ao cap b o,e=.returned (.tuple #[.slice ao xs.length cap,.int .i64 er])∧Sl w' 1 ao xs.length cap b o (xs.map (.int .i64))∧Keeps w w'
theorem Sl.at {P:Program} {t e:TypeId} {w:World} {sz:Nat} {ao:Option Addr} {n cap b o:Nat} {cs:List Value} (H:Sl w sz ao n cap b o cs) (ht:P.underlying t=some (.slice e)) (hz:∀ w,(sizeOf e).run P w=.ok sz w)
  (k:Nat) (hk:k < n):∀ w',(Instr.indexAt t (.slice ao n cap) (.int .i64 (k:Int))).run P w'=.ok (.pointer (some ⟨b,o+k * sz,none⟩)) w':=by
 intro w'
 obtain rfl:=H.addr (by omega)
 have h1:((⟨b,o,none⟩:Addr).add (k * sz))=⟨b,o+k * sz,none⟩:=Addr.add_lit _ _ _
 have he:P.elem t=e:=by simp [Program.elem,ht]
 rw [run_indexAt_slice _ _ _ _ _ _ _ (by rw [he];exact ht),if_pos (by omega),he,hz,Result.andThen_ok,Int.toNat_natCast,h1]
theorem Sl.at1 {P:Program} {t e:TypeId} {w:World} {ao:Option Addr} {n cap b o:Nat} {cs:List Value} (H:Sl w 1 ao n cap b o cs) (ht:P.underlying t=some (.slice e)) (hz:∀ w,(sizeOf e).run P w=.ok 1 w)
  (k:Nat) (hk:k < n):∀ w',(Instr.indexAt t (.slice ao n cap) (.int .i64 (k:Int))).run P w'=.ok (.pointer (some ⟨b,o+k,none⟩)) w':=by
 have:=H.at ht hz k hk
 simpa only [Nat.mul_one] using this
end Go.Proofs.YtoaidbhiciaeaaaGreat
namespace Go.Proofs.YtoaidbhiciaeaaaGreat
open Go.RowKit
structure ElemOf (P:Program) (t e:TypeId) (z:Value) (size bytes:Nat):Prop where
 ht:P.underlying t=some (.slice e)
 info:(P.info? e).map (fun i=>(i.zero,i.size,i.bytes))=some (some z,size,bytes)
 zs:z.cells.size=size
 sz:0 < size
theorem wpList_app {P:Program} {w:World} {ops:Array Oper} {rest:List Oper} {o:Oper} {a:Act} {Q:Exit→Act→World→Prop} {t e:TypeId} {z:Value} {size bytes:Nat}
  (E:ElemOf P t e z size bytes) (hgd:o.guard=none) (s x:Operand) (ho:o.op=.call { callee:=.builtin .append,args:=#[s,x],argTypes:=#[t,t] })
  (w0:World) (v:Value) (n:Nat) (xs:List Value) (hs:a.eval s=v) (base:Nat) (hown:w.ownsRow base e size v n xs) (hb:Below base w0 w) (hbase:base≤w.heap.size)
  (news:List Value) (c:Nat) (hx:a.eval x=.slice (some ⟨w.heap.size,0,none⟩) 1 c) (hl:news.length=size) (h1:∀ u∈news,u.oneCell'=true) (hbytes:(n+1) * bytes≤140737488355328) (h63:n+1≤9223372036854775807)
  (h:∀ v' w',w'.ownsRow base e size v' (n+1) (xs ++ news)→Below base w0 w'→base≤w'.heap.size→wpList P ops Q rest (a.put o.dst v') w') :
  wpList P ops Q (o :: rest) a (w.alloc (.cells news.toArray e)):=by
 obtain ⟨i0,hi,hz0,hz1,hz2⟩:=info_parts E.info
 refine wpList_append_own _ hgd s x t ho base e i0 z size bytes E.ht hi hz0 hz1 hz2 E.zs E.sz v n xs hs (hown.alloc _) ⟨w.heap.size,0,none⟩ 1 c news hx (by omega) ?_ h1 (by unfold maxLen;omega) hbytes (by simp;omega) ?_
 ·intro j u hj
  rw [Addr.add_lit,Nat.zero_add,cell_of_row (w.alloc (.cells news.toArray e)) w.heap.size j news.toArray e (0,0) (heap_alloc_new w _)]
  simpa using hj
 ·intro v' w' hown' hgrow _
  refine h v' w' hown' ((hb.alloc hbase _).grown hgrow (by simp;omega) (fun k hk=>(hown.lt k hk).1)) (Nat.le_trans hbase (Nat.le_trans (by simp) hgrow.size))
theorem wpList_appx {P:Program} {w:World} {ops:Array Oper} {rest:List Oper} {o:Oper} {a:Act} {Q:Exit→Act→World→Prop} {t e:TypeId} {z:Value} {size bytes:Nat}
  (E:ElemOf P t e z size bytes) (hgd:o.guard=none) (s x:Operand) (ho:o.op=.call { callee:=.builtin .append,args:=#[s,x],argTypes:=#[t,t] })
  (w0:World) (v:Value) (n:Nat) (xs:List Value) (hs:a.eval s=v) (base:Nat) (hown:w.ownsRow base e size v n xs) (hb:Below base w0 w) (hbase:base≤w.heap.size)
  (news:List Value) (bx c:Nat) (hx:a.eval x=.slice (some ⟨bx,0,none⟩) 1 c) (hbx:bx=w.heap.size) (hl:news.length=size) (h1:∀ u∈news,u.oneCell'=true) (hbytes:(n+1) * bytes≤140737488355328) (h63:n+1≤9223372036854775807)
  (h:∀ v' w',w'.ownsRow base e size v' (n+1) (xs ++ news)→Below base w0 w'→base≤w'.heap.size→wpList P ops Q rest (a.put o.dst v') w') :
  wpList P ops Q (o :: rest) a (w.alloc (.cells news.toArray e)):=by
 subst hbx
 exact wpList_app E hgd s x ho w0 v n xs hs base hown hb hbase news c hx hl h1 hbytes h63 h
theorem wp_app_all {P:Program} {w:World} {o:Oper} {a:Act} {K:Act→World→Prop} {Q:Exit→Act→World→Prop} {t e:TypeId} {z:Value} {size bytes:Nat}
  (E:ElemOf P t e z size bytes) (s x:Operand) (ho:o.op=.call { callee:=.builtin .append,args:=#[s,x],argTypes:=#[t,t] })
  (w0:World) (v:Value) (n:Nat) (xs:List Value) (hs:a.eval s=v) (base:Nat) (hown:w.ownsRow base e size v n xs) (hb:Below base w0 w) (hbase:base≤w.heap.size)
  (ao:Option Addr) (m c b off:Nat) (cs:List Value) (hx:a.eval x=.slice ao m c) (H:Sl w size ao m c b off cs) (h1:∀ u∈cs,u.oneCell'=true) (hbytes:(n+m) * bytes≤140737488355328) (h63:n+m≤9223372036854775807)
  (h:∀ v' w',w'.ownsRow base e size v' (n+m) (xs ++ cs)→Below base w0 w'→base≤w'.heap.size→K (a.put o.dst v') w') :
  o.wp P a w K Q:=by
 obtain ⟨i0,hi,hz0,hz1,hz2⟩:=info_parts E.info
 cases ao with
 | none=>
  have hc:=H.nocap rfl
  have hm:m=0:=by have:=H.le;omega
  subst hc hm
  have hcs:cs=[]:=List.eq_nil_of_length_eq_zero (by simpa using H.len)
  subst hcs
  have hr:=run_append_owned_none (P:=P) w base t o.type e i0 size E.ht hi v n xs hown
  unfold Oper.wp execOp
  simp only [ho,resolve,invoke,builtin,Sem.run_bind,Sem.run_pure,Result.andThen_ok,List.map_toArray,List.map_cons,List.map_nil,hs,hx,hr]
  exact h v w (by simpa using hown) hb hbase
 | some ad=>
  refine wp_append_own w s x t ho base e i0 z size bytes E.ht hi hz0 hz1 hz2 E.zs E.sz v n xs hs hown ad m c cs hx H.len ?_ h1 (by unfold maxLen;omega) hbytes hbase ?_
  ·intro j u hj
   have hm:0 < m:=by
    rcases Nat.eq_zero_or_pos m with h0 | h0
    ·subst h0
     have hcs:cs=[]:=List.eq_nil_of_length_eq_zero (by simpa using H.len)
     subst hcs
     simp at hj
    ·exact h0
   have ha:=H.addr hm
   simp only [Option.some.injEq] at ha
   subst ha
   rw [Addr.add_lit]
   exact H.cell j u hj
  ·intro v' w' hown' hgrow _
   exact h v' w' hown' (hb.grown hgrow hbase (fun k hk=>(hown.lt k hk).1)) (Nat.le_trans hbase hgrow.size)
theorem wpList_app_all {P:Program} {w:World} {ops:Array Oper} {rest:List Oper} {o:Oper} {a:Act} {Q:Exit→Act→World→Prop} {t e:TypeId} {z:Value} {size bytes:Nat}
  (E:ElemOf P t e z size bytes) (hgd:o.guard=none) (s x:Operand) (ho:o.op=.call { callee:=.builtin .append,args:=#[s,x],argTypes:=#[t,t] })
  (w0:World) (v:Value) (n:Nat) (xs:List Value) (hs:a.eval s=v) (base:Nat) (hown:w.ownsRow base e size v n xs) (hb:Below base w0 w) (hbase:base≤w.heap.size)
  (ao:Option Addr) (m c b off:Nat) (cs:List Value) (hx:a.eval x=.slice ao m c) (H:Sl w size ao m c b off cs) (h1:∀ u∈cs,u.oneCell'=true) (hbytes:(n+m) * bytes≤140737488355328) (h63:n+m≤9223372036854775807)
  (h:∀ v' w',w'.ownsRow base e size v' (n+m) (xs ++ cs)→Below base w0 w'→base≤w'.heap.size→wpList P ops Q rest (a.put o.dst v') w') :
  wpList P ops Q (o :: rest) a w:=
 wpList_plain hgd fun _ hK=>wp_app_all E s x ho w0 v n xs hs base hown hb hbase ao m c b off cs hx H h1 hbytes h63 fun v' w' h2 h3 h4=>hK _ _ (h v' w' h2 h3 h4)
theorem own_empty {w:World} {base e size:Nat} (hb:base≤w.heap.size):(w.alloc (.cells #[] e)).ownsRow base e size (.slice (some ⟨w.heap.size,0,none⟩) 0 0) 0 []:=
 World.ownsRow_made w #[] 0 hb (by unfold maxLen;omega) (by simp)
theorem own_emptyx {w:World} {base e size bx:Nat} (hb:base≤w.heap.size) (hx:bx=w.heap.size):(w.alloc (.cells #[] e)).ownsRow base e size (.slice (some ⟨bx,0,none⟩) 0 0) 0 []:=by subst hx;exact own_empty hb
def IntL (w:World) (v:Value) (xs:List Int):Prop:=∃ ao cap b o,v=.slice ao xs.length cap∧Sl w 1 ao xs.length cap b o (xs.map (.int .i64))
theorem IntL.keeps {w w':World} {v:Value} {xs:List Int} (h:IntL w v xs) (hk:Keeps w w'):IntL w' v xs:=by
 obtain ⟨ao,cap,b,o,rfl,hs⟩:=h
 exact ⟨ao,cap,b,o,rfl,hs.keeps hk⟩
theorem IntL.own {w:World} {v:Value} {xs:List Int} {base e:Nat} (h:w.ownsRow base e 1 v xs.length (xs.map (.int .i64))):IntL w v xs:=by
 obtain ⟨ao,cap,b,rfl,hs⟩:=Sl.own h
 exact ⟨ao,cap,b,0,rfl,hs⟩
theorem Sl.lit (w:World) (sz n:Nat) (cs:List Value) (e:TypeId) (hs:cs.length=n * sz) (hn:n≤9223372036854775807):Sl (w.alloc (.cells cs.toArray e)) sz (some ⟨w.heap.size,0,none⟩) n n w.heap.size 0 cs:=
 ⟨hs,Nat.le_refl _,(fun h=>by cases h),hn,fun _=>rfl,fun j u hu=>by
  rw [Nat.zero_add,cell_of_row (w.alloc (.cells cs.toArray e)) w.heap.size j cs.toArray e (0,0) (heap_alloc_new w _)]
  simpa using hu⟩
theorem Sl.take {w:World} {sz:Nat} {ao:Option Addr} {n cap b o:Nat} {cs:List Value} (H:Sl w sz ao n cap b o cs) (k:Nat) (hk:k≤n):Sl w sz ao k cap b o (cs.take (k * sz)):=
 ⟨by rw [List.length_take,H.len];exact Nat.min_eq_left (Nat.mul_le_mul_right _ hk),Nat.le_trans hk H.le,H.nocap,H.cap,fun h=>H.addr (by omega),fun j u hu=>H.cell j u (by
  rw [List.getElem?_take] at hu
  split at hu
  ·exact hu
  ·cases hu)⟩
theorem Sl.takeInt {w:World} {q:IntKind} {ao:Option Addr} {cap b o:Nat} {xs:List Int} (H:Sl w 1 ao xs.length cap b o (xs.map (.int q))) (k:Nat) (hk:k≤xs.length):Sl w 1 ao (xs.take k).length cap b o ((xs.take k).map (.int q)):=by
 have:=H.take k hk
 rw [List.length_take,Nat.min_eq_left hk,List.map_take]
 simpa using this
theorem run_cutTo {P:Program} {t e:TypeId} {sz:Nat} (ht:P.underlying t=some (.slice e)) (hz:∀ w,(sizeOf e).run P w=.ok sz w) (ao:Option Addr) (n cap k:Nat) (hk:k≤cap) (_hc:cap≤9223372036854775807) (w':World) :
  (Instr.slice t (.slice ao n cap) none (some (.int .i64 (k:Int))) none).run P w'=.ok (.slice ao k cap) w':=by
 have hk':(k:Int)≤(cap:Int):=by omega
 go_simp
theorem run_cutFrom {P:Program} {t e:TypeId} {sz:Nat} (ht:P.underlying t=some (.slice e)) (hz:∀ w,(sizeOf e).run P w=.ok sz w) (ao:Option Addr) (n cap k:Nat) (hk:k≤n) (hn:n≤cap) (_hc:cap≤9223372036854775807) (w':World) :
  (Instr.slice t (.slice ao n cap) (some (.int .i64 (k:Int))) none none).run P w'=.ok (.slice (if cap=k then ao else ao.map (fun x=>x.add (k * sz))) (n - k) (cap - k)) w':=by
 have hk':(k:Int)≤(cap:Int):=by omega
 have hk2:(k:Int)≤(n:Int):=by omega
 go_simp
theorem Sl.cutFrom {P:Program} {t e:TypeId} {w:World} {sz:Nat} {ao:Option Addr} {n cap b o:Nat} {cs:List Value} (H:Sl w sz ao n cap b o cs) (ht:P.underlying t=some (.slice e)) (hz:∀ w,(sizeOf e).run P w=.ok sz w) (k:Nat) (hk:k≤n) :
  ∃ ao',(∀ w',(Instr.slice t (.slice ao n cap) (some (.int .i64 (k:Int))) none none).run P w'=.ok (.slice ao' (n - k) (cap - k)) w')∧Sl w sz ao' (n - k) (cap - k) b (o+k * sz) (cs.drop (k * sz)):=by
 refine ⟨_,fun w'=>run_cutFrom ht hz ao n cap k hk H.le H.cap w',?_⟩
 have hle:=H.le
 have hcap:=H.cap
 refine ⟨by rw [List.length_drop,H.len,Nat.sub_mul],by omega,fun h=>?_,by omega,fun h=>?_,fun j u hj=>?_⟩
 ·by_cases h1:cap=k
  ·omega
  ·rw [if_neg h1] at h
   have:ao=none:=by cases ao;rfl;simp at h
   have:=H.nocap this
   omega
 ·rw [if_neg (by omega),H.addr (by omega)]
  simp [Addr.add_lit]
 ·rw [List.getElem?_drop] at hj
  have:=H.cell _ u hj
  rw [show o+k * sz+j=o+(k * sz+j) from by omega]
  exact this
end Go.Proofs.YtoaidbhiciaeaaaGreat
namespace Go.Proofs.YtoaidbhiciaeaaaGreat
open Go.RowKit
def Sep (a b:Value):Prop:=a.ownBlock=none∨b.ownBlock=none∨a.ownBlock≠b.ownBlock
theorem Sep.symm {a b:Value} (h:Sep a b):Sep b a:=by
 rcases h with h | h | h
 ·exact .inr (.inl h)
 ·exact .inl h
 ·exact .inr (.inr fun e=>h e.symm)
theorem Sep.nil (a:Value):Sep a (.slice none 0 0):=.inr (.inl rfl)
theorem wpList_app2 {P:Program} {w:World} {ops:Array Oper} {rest:List Oper} {o:Oper} {a:Act} {Q:Exit→Act→World→Prop} {t e e2:TypeId} {z:Value} {size bytes size2:Nat}
  (E:ElemOf P t e z size bytes) (hgd:o.guard=none) (s x:Operand) (ho:o.op=.call { callee:=.builtin .append,args:=#[s,x],argTypes:=#[t,t] })
  (w0:World) (v:Value) (n:Nat) (xs:List Value) (hs:a.eval s=v) (base:Nat) (hown:w.ownsRow base e size v n xs) (hb:Below base w0 w) (hbase:base≤w.heap.size)
  (v2:Value) (n2:Nat) (xs2:List Value) (hown2:w.ownsRow base e2 size2 v2 n2 xs2) (hsep:Sep v2 v)
  (news:List Value) (c:Nat) (hx:a.eval x=.slice (some ⟨w.heap.size,0,none⟩) 1 c) (hl:news.length=size) (h1:∀ u∈news,u.oneCell'=true) (hbytes:(n+1) * bytes≤140737488355328) (h63:n+1≤9223372036854775807)
  (h:∀ v' w',w'.ownsRow base e size v' (n+1) (xs ++ news)→w'.ownsRow base e2 size2 v2 n2 xs2→Sep v2 v'→Below base w0 w'→base≤w'.heap.size→wpList P ops Q rest (a.put o.dst v') w') :
  wpList P ops Q (o :: rest) a (w.alloc (.cells news.toArray e)):=by
 obtain ⟨i0,hi,hz0,hz1,hz2⟩:=info_parts E.info
 refine wpList_append_own_at _ hgd s x t ho base e i0 z size bytes E.ht hi hz0 hz1 hz2 E.zs E.sz v n xs hs (hown.alloc _) ⟨w.heap.size,0,none⟩ 1 c news hx (by omega) ?_ h1 (by unfold maxLen;omega) hbytes (by simp;omega) ?_
 ·intro j u hj
  rw [Addr.add_lit,Nat.zero_add,cell_of_row (w.alloc (.cells news.toArray e)) w.heap.size j news.toArray e (0,0) (heap_alloc_new w _)]
  simpa using hj
 ·intro v' w' hown' hgrow _ hat
  have hlt2:=hown2.lt
  refine h v' w' hown' ((hown2.alloc _).kept hgrow ?_) ?_ ((hb.alloc hbase _).grown hgrow (by simp;omega) (fun k hk=>(hown.lt k hk).1)) (Nat.le_trans hbase (Nat.le_trans (by simp) hgrow.size))
  ·rcases hsep with h' | h' | h'
   ·exact .inl h'
   ·rw [h']
    cases hv:v2.ownBlock
    ·exact .inl rfl
    ·exact .inr (by simp)
   ·exact .inr h'
  ·rcases hat with h' | h'
   ·unfold Sep;rw [h'];exact hsep
   ·cases hv:v2.ownBlock with
    | none=>exact .inl hv
    | some k=>
     right;right
     have:=(hlt2 k hv).2
     rw [hv,h']
     simp
     omega
theorem step_one {P:Program} {w:World} {ops:Array Oper} {o:Oper} {a:Act} {K:Act→World→Prop} {Q:Exit→Act→World→Prop} {F:Prop} {t e:TypeId} {z:Value} {bytes:Nat}
  (E:ElemOf P t e z 1 bytes) (hgd:o.guard=none) (s x:Operand) (ho:o.op=.call { callee:=.builtin .append,args:=#[s,x],argTypes:=#[t,t] })
  (v:Value) (n:Nat) (xs:List Value) (hs:a.eval s=v) (base:Nat) (hown:w.ownsRow base e 1 v n xs) (hbase:base≤w.heap.size)
  (bx c:Nat) (u:Value) (hx:a.eval x=.slice (some ⟨bx,0,none⟩) 1 c) (hu:w.cell? ⟨bx,0,none⟩=some u) (h1:u.oneCell'=true) (hbytes:(n+1) * bytes≤140737488355328) (h63:n+1≤9223372036854775807)
  (h:∀ v' w',w'.ownsRow base e 1 v' (n+1) (xs ++ [u])→w.grownBy w' v.ownBlock→(v'.ownBlock=v.ownBlock∨v'.ownBlock=some w.heap.size)→K (a.put o.dst v') w') :
  if Region.wanted o (yielded ops a.tmps)=true then Oper.wp P o a w K Q else F:=by
 have hw:Region.wanted o (yielded ops a.tmps)=true:=by simp [Region.wanted,hgd]
 rw [if_pos hw]
 obtain ⟨i0,hi,hz0,hz1,hz2⟩:=info_parts E.info
 obtain ⟨v',w',hr,h2,h3,_,h5⟩:=run_append_own_at (P:=P) w base t o.type e i0 z 1 bytes E.ht hi hz0 hz1 hz2 E.zs E.sz v n xs hown ⟨bx,0,none⟩ 1 c [u] (by simp) (fun j u' hj=>by
  match j,hj with
  | 0,hj=>
   simp at hj
   subst hj
   rw [Addr.add_lit];exact hu) (by simpa using h1) (by unfold maxLen;omega) hbytes hbase
 unfold Oper.wp execOp
 simp only [ho,resolve,invoke,builtin,Sem.run_bind,Sem.run_pure,Result.andThen_ok,List.map_toArray,List.map_cons,List.map_nil,hs,hx,hr]
 exact h v' w' h2 h3 h5
theorem Sep.moved {W:World} {base e size n:Nat} {xs:List Value} {vo vm v2:Value} (h:Sep vm vo) (hm:W.ownsRow base e size vm n xs) {B:Nat} (hB:W.heap.size≤B) (hat:v2.ownBlock=vo.ownBlock∨v2.ownBlock=some B):Sep vm v2:=by
 rcases hat with h' | h'
 ·unfold Sep;rw [h'];exact h
 ·cases hv:vm.ownBlock with
  | none=>exact .inl hv
  | some k=>
   right;right
   have:=(hm.lt k hv).2
   rw [hv,h']
   simp
   omega
theorem grown_refl (w:World) (row:Option Nat):w.grownBy w row:=⟨rfl,rfl,rfl,Nat.le_refl _,fun _ _ _=>rfl⟩
theorem step_all_raw {P:Program} {w:World} {ops:Array Oper} {o:Oper} {a:Act} {K:Act→World→Prop} {Q:Exit→Act→World→Prop} {F:Prop} {t e:TypeId} {z:Value} {size bytes:Nat}
  (E:ElemOf P t e z size bytes) (hgd:o.guard=none) (s x:Operand) (ho:o.op=.call { callee:=.builtin .append,args:=#[s,x],argTypes:=#[t,t] })
  (v:Value) (n:Nat) (xs:List Value) (hs:a.eval s=v) (base:Nat) (hown:w.ownsRow base e size v n xs) (hbase:base≤w.heap.size)
  (ao:Option Addr) (m c b off:Nat) (cs:List Value) (hx:a.eval x=.slice ao m c) (H:Sl w size ao m c b off cs) (h1:∀ u∈cs,u.oneCell'=true) (hbytes:(n+m) * bytes≤140737488355328) (h63:n+m≤9223372036854775807)
  (h:∀ v' w',w'.ownsRow base e size v' (n+m) (xs ++ cs)→w.grownBy w' v.ownBlock→(v'.ownBlock=v.ownBlock∨v'.ownBlock=some w.heap.size)→K (a.put o.dst v') w') :
  if Region.wanted o (yielded ops a.tmps)=true then Oper.wp P o a w K Q else F:=by
 have hw:Region.wanted o (yielded ops a.tmps)=true:=by simp [Region.wanted,hgd]
 rw [if_pos hw]
 obtain ⟨i0,hi,hz0,hz1,hz2⟩:=info_parts E.info
 cases ao with
 | none=>
  have hc:=H.nocap rfl
  have hm:m=0:=by have:=H.le;omega
  subst hc hm
  have hcs:cs=[]:=List.eq_nil_of_length_eq_zero (by simpa using H.len)
  subst hcs
  have hr:=run_append_owned_none (P:=P) w base t o.type e i0 size E.ht hi v n xs hown
  unfold Oper.wp execOp
  simp only [ho,resolve,invoke,builtin,Sem.run_bind,Sem.run_pure,Result.andThen_ok,List.map_toArray,List.map_cons,List.map_nil,hs,hx,hr]
  exact h v w (by simpa using hown) (grown_refl w _) (.inl rfl)
 | some ad=>
  have hnews:∀ j u,cs[j]?=some u→w.cell? (ad.add j)=some u:=by
   intro j u hj
   have hm:0 < m:=by
    rcases Nat.eq_zero_or_pos m with h0 | h0
    ·subst h0
     have hcs:cs=[]:=List.eq_nil_of_length_eq_zero (by simpa using H.len)
     subst hcs
     simp at hj
    ·exact h0
   have ha:=H.addr hm
   simp only [Option.some.injEq] at ha
   subst ha
   rw [Addr.add_lit]
   exact H.cell j u hj
  obtain ⟨v',w',hr,h2,h3,_,h5⟩:=run_append_own_at (P:=P) w base t o.type e i0 z size bytes E.ht hi hz0 hz1 hz2 E.zs E.sz v n xs hown ad m c cs H.len hnews h1 (by unfold maxLen;omega) hbytes hbase
  unfold Oper.wp execOp
  simp only [ho,resolve,invoke,builtin,Sem.run_bind,Sem.run_pure,Result.andThen_ok,List.map_toArray,List.map_cons,List.map_nil,hs,hx,hr]
  exact h v' w' h2 h3 h5
theorem Sl.block {w:World} {bx sz:Nat} {cs:List Value} (hl:cs.length=sz) (h:∀ j u,cs[j]?=some u→w.cell? ⟨bx,j,none⟩=some u):Sl w sz (some ⟨bx,0,none⟩) 1 1 bx 0 cs:=
 ⟨by simpa using hl,Nat.le_refl _,(fun h=>by cases h),by omega,fun _=>rfl,fun j u hu=>by rw [Nat.zero_add];exact h j u hu⟩
end Go.Proofs.YtoaidbhiciaeaaaGreat
namespace Go.Proofs.YtoaidbhiciaeaaaGreat
open Go.RowKit
def Recs {α:Type} (w:World) (sz:Nat) (enc:α→List Value) (ao:Option Addr) (l:List α) (cap b o:Nat):Prop:=Sl w sz ao l.length cap b o (l.flatMap enc)
theorem flat_length {α:Type} {enc:α→List Value} {sz:Nat} (he:∀ a,(enc a).length=sz):∀ l:List α,(l.flatMap enc).length=l.length * sz
 | []=>by simp
 | a :: l=>by rw [List.flatMap_cons,List.length_append,he,flat_length he l,List.length_cons,Nat.add_mul];omega
theorem flat_get {α:Type} {enc:α→List Value} {sz:Nat} (he:∀ a,(enc a).length=sz):∀ (l:List α) (k j:Nat) (hk:k < l.length),j < sz→(l.flatMap enc)[k * sz+j]?=(enc l[k])[j]?
 | a :: l,0,j,_,hj=>by rw [List.flatMap_cons,Nat.zero_mul,Nat.zero_add,List.getElem?_append_left (by rw [he];exact hj)];rfl
 | a :: l,k+1,j,hk,hj=>by
  rw [List.flatMap_cons,List.getElem?_append_right (by rw [he,Nat.add_mul];omega),he]
  have:(k+1) * sz+j - sz=k * sz+j:=by rw [Nat.add_mul];omega
  rw [this]
  exact flat_get he l k j (by simpa using hk) hj
theorem Recs.cell {α:Type} {w:World} {sz:Nat} {enc:α→List Value} {ao:Option Addr} {l:List α} {cap b o:Nat} (H:Recs w sz enc ao l cap b o) (he:∀ a,(enc a).length=sz) (k:Nat) (hk:k < l.length) (j:Nat) (v:Value) (hj:(enc l[k])[j]?=some v) :
  w.cell? ⟨b,o+k * sz+j,none⟩=some v:=by
 have hjs:j < sz:=by have:=(List.getElem?_eq_some_iff.1 hj).1;rw [he] at this;exact this
 have:=Sl.cell H (k * sz+j) v ((flat_get he l k j hk hjs).trans hj)
 rw [show o+k * sz+j=o+(k * sz+j) from by omega]
 exact this
theorem Recs.keeps {α:Type} {w w':World} {sz:Nat} {enc:α→List Value} {ao:Option Addr} {l:List α} {cap b o:Nat} (H:Recs w sz enc ao l cap b o) (h:Keeps w w'):Recs w' sz enc ao l cap b o:=Sl.keeps H h
theorem Recs.drewN {α:Type} {w:World} {sz:Nat} {enc:α→List Value} {ao:Option Addr} {l:List α} {cap b o:Nat} (H:Recs w sz enc ao l cap b o) (q:Nat):Recs (w.drewN q) sz enc ao l cap b o:=Sl.drewN H q
theorem Recs.own {α:Type} {w:World} {sz base e:Nat} {enc:α→List Value} {v:Value} {l:List α} (h:w.ownsRow base e sz v l.length (l.flatMap enc)):∃ ao cap b,v=.slice ao l.length cap∧Recs w sz enc ao l cap b 0:=Sl.own h
structure Acc where
 code:Int
 kind:Int
 basis:Int
 parent:Int
structure Lnk where
 frm:Int
 to:Int
 since:Int
structure Bal where
 acc:Int
 amount:Int
def Acc.cells (a:Acc):List Value:=[.int .i64 a.code,.int .i64 a.kind,.int .i64 a.basis,.int .i64 a.parent]
def Lnk.cells (a:Lnk):List Value:=[.int .i64 a.frm,.int .i64 a.to,.int .i64 a.since]
def Bal.cells (a:Bal):List Value:=[.int .i64 a.acc,.int .i64 a.amount]
def Acc.val (a:Acc):Value:=.agg #[.int .i64 a.code,.int .i64 a.kind,.int .i64 a.basis,.int .i64 a.parent]
def Acc.zero:Acc:=⟨0,0,0,0⟩
theorem Acc.len (a:Acc):a.cells.length=4:=rfl
theorem Lnk.len (a:Lnk):a.cells.length=3:=rfl
theorem Bal.len (a:Bal):a.cells.length=2:=rfl
abbrev Accs (w:World) (ao:Option Addr) (l:List Acc) (cap b o:Nat):Prop:=Recs w 4 Acc.cells ao l cap b o
abbrev Lnks (w:World) (ao:Option Addr) (l:List Lnk) (cap b o:Nat):Prop:=Recs w 3 Lnk.cells ao l cap b o
def AccL (w:World) (v:Value) (l:List Acc):Prop:=∃ ao cap b o,v=.slice ao l.length cap∧Accs w ao l cap b o
def LnkL (w:World) (v:Value) (l:List Lnk):Prop:=∃ ao cap b o,v=.slice ao l.length cap∧Lnks w ao l cap b o
theorem AccL.keeps {w w':World} {v:Value} {l:List Acc} (h:AccL w v l) (k:Keeps w w'):AccL w' v l:=by obtain ⟨ao,cap,b,o,rfl,hs⟩:=h;exact ⟨ao,cap,b,o,rfl,hs.keeps k⟩
theorem LnkL.keeps {w w':World} {v:Value} {l:List Lnk} (h:LnkL w v l) (k:Keeps w w'):LnkL w' v l:=by obtain ⟨ao,cap,b,o,rfl,hs⟩:=h;exact ⟨ao,cap,b,o,rfl,hs.keeps k⟩
structure Ent where
 name:ByteArray
 cur:ByteArray
 chart:List Acc
 links:List Lnk
 joint:Bool
def EntV (w:World) (v:Value) (e:Ent):Prop:=∃ c l,v=.agg #[.string e.name,.string e.cur,c,l,.bool e.joint]∧AccL w c e.chart∧LnkL w l e.links
end Go.Proofs.YtoaidbhiciaeaaaGreat

end
section
namespace Go.Proofs.YtoaidbhiciaeaaaGreat
def leapF (y:Int):Bool:=(y.tmod 4 == 0) && ((y.tmod 100 != 0) || (y.tmod 400 == 0))
def daysL:List Int:=[31,28,31,30,31,30,31,31,30,31,30,31]
def dmF (y m:Int):Int:=if y < 1900∨2199 < y∨m < 1∨12 < m then 0 else if (m == 2 && leapF y)=true then 29 else daysL.getD (m - 1).toNat 0
def begF (y:Int):Int:=365 * (y - 1)+(y - 1).tdiv 4 - (y - 1).tdiv 100+(y - 1).tdiv 400 - 719162
def mofF (y:Int):Nat→Int
 | 0=>0
 | k+1=>mofF y k+dmF y (k+1:Nat)
def fdF (n:Int):Int:=begF (n.tdiv 12)+mofF (n.tdiv 12) (n.tmod 12).toNat
theorem beg_step0:∀ k,k < 301→begF (1899+(k:Nat)+1)=begF (1899+(k:Nat))+365+(if leapF (1899+(k:Nat)) then 1 else 0):=by decide +kernel
theorem beg_step {y:Int} (h1:1899≤y) (h2:y≤2199):begF (y+1)=begF y+365+(if leapF y then 1 else 0):=by
 have:=beg_step0 (y - 1899).toNat (by omega)
 rwa [show (1899:Int)+((y - 1899).toNat:Nat)=y from by omega] at this
theorem beg_mono {a:Int} (h1:1899≤a):∀ (k:Nat),a+k≤2200→begF a+k≤begF (a+k)
 | 0,_=>by simp
 | k+1,h=>by
  have ih:=beg_mono h1 k (by omega)
  have:=beg_step (y:=a+k) (by omega) (by omega)
  rw [show a+((k+1:Nat):Int)=a+k+1 from by omega,this]
  split <;> omega
theorem beg_lt {a b:Int} (h1:1899≤a) (h:a < b) (h2:b≤2200):begF a < begF b:=by
 have:=beg_mono h1 (b - a).toNat (by omega)
 rw [show a+((b - a).toNat:Nat)=b from by omega] at this
 omega
theorem beg_le {a b:Int} (h1:1899≤a) (h:a≤b) (h2:b≤2200):begF a≤begF b:=by
 rcases Int.lt_or_eq_of_le h with h | rfl
 ·exact Int.le_of_lt (beg_lt h1 h h2)
 ·exact Int.le_refl _
theorem beg_1900:begF 1900=-25567:=by decide +kernel
def monthOk (y:Int) (j:Nat):Bool:=
 decide (begF y≤begF y+mofF y j) && decide (begF y+mofF y j < begF (y+1)) && decide (1900≤y+70) && decide (1970+(begF y+mofF y j).tdiv 366 - 2≤y) && decide (1899≤1970+(begF y+mofF y j).tdiv 366 - 2) &&
  decide (-25567≤begF y+mofF y j) && decide (begF y+mofF y j≤84005) && decide (28≤dmF y (j+1:Nat)) && decide (dmF y (j+1:Nat)≤31) && decide (0≤mofF y j) && decide (mofF y j≤366)
theorem months_ok:∀ k,k < 300→∀ j,j < 12→monthOk (1900+(k:Nat)) j=true:=by decide +kernel
structure MonthOk (y:Int) (j:Nat):Prop where
 lt:begF y+mofF y j < begF (y+1)
 from_:1970+(begF y+mofF y j).tdiv 366 - 2≤y
 low:1899≤1970+(begF y+mofF y j).tdiv 366 - 2
 min:-25567≤begF y+mofF y j
 max:begF y+mofF y j≤84005
 d28:28≤dmF y (j+1:Nat)
 d31:dmF y (j+1:Nat)≤31
 m0:0≤mofF y j
 m1:mofF y j≤366
theorem month_ok {y:Int} (h1:1900≤y) (h2:y≤2199) {j:Nat} (hj:j < 12):MonthOk y j:=by
 have h:=months_ok (y - 1900).toNat (by omega) j hj
 rw [show (1900:Int)+((y - 1900).toNat:Nat)=y from by omega] at h
 unfold monthOk at h
 simp only [Bool.and_eq_true,decide_eq_true_eq] at h
 obtain ⟨⟨⟨⟨⟨⟨⟨⟨⟨⟨a,b⟩,c⟩,d⟩,e⟩,f⟩,g⟩,i⟩,k⟩,l⟩,m⟩:=h
 exact ⟨b,d,e,f,g,i,k,l,m⟩
theorem mof_mono {y:Int} (h1:1900≤y) (h2:y≤2199) {i j:Nat} (hij:i < j) (hj:j < 12):mofF y i+dmF y (i+1:Nat)≤mofF y j:=by
 induction j with
 | zero=>omega
 | succ j ih=>
  by_cases h:i=j
  ·subst h;exact Int.le_refl _
  ·have:=ih (by omega) (by omega)
   have hd:=(month_ok h1 h2 (show j < 12 by omega)).d28
   show _≤mofF y j+dmF y ((j+1:Nat):Int)
   omega
def ofF (y m d:Int):Int × Int:=if d < 1∨dmF y m < d then (0,2) else (begF y+d - 1+mofF y (m - 1).toNat,0)
theorem dmF_zero {y m:Int} (h:y < 1900∨2199 < y∨m < 1∨12 < m):dmF y m=0:=if_pos h
theorem ofF_one {y m:Int} (h1:1900≤y) (h2:y≤2199) (h3:1≤m) (h4:m≤12):ofF y m 1=(begF y+mofF y (m - 1).toNat,0):=by
 have h:=(month_ok h1 h2 (show (m - 1).toNat < 12 by omega)).d28
 rw [show (((m - 1).toNat+1:Nat):Int)=m from by omega] at h
 unfold ofF
 rw [if_neg (by omega)]
 congr 1
 omega
theorem ofF_bad {y m:Int} (h:y < 1900∨2199 < y∨m < 1∨12 < m):ofF y m 1=(0,2):=by
 unfold ofF
 rw [dmF_zero h,if_pos (by omega)]
def calB (y m n:Int):Bool:=decide (1≤m∧m≤12∧1≤n∧n≤120∧1900≤y∧y≤2199∧12 * y+m - 1+(n - 1) < 26400)
theorem calB_true {y m n:Int} (h:calB y m n=true):1≤m∧m≤12∧1≤n∧n≤120∧1900≤y∧y≤2199∧12 * y+m - 1+(n - 1) < 26400:=of_decide_eq_true h
theorem tdiv12 {n:Int} (h:0≤n):n.tdiv 12=n / 12:=Int.tdiv_eq_ediv_of_nonneg h
theorem tmod12 {n:Int} (h:0≤n):n.tmod 12=n % 12:=Int.tmod_eq_emod_of_nonneg h
theorem month_of {n:Int} (h1:22800≤n) (h2:n < 26400):1900≤n.tdiv 12∧n.tdiv 12≤2199∧0≤n.tmod 12∧n.tmod 12 < 12:=by
 rw [tdiv12 (by omega),tmod12 (by omega)]
 omega
end Go.Proofs.YtoaidbhiciaeaaaGreat

end
section
namespace Go.Proofs.YtoaidbhiciaeaaaGreat
structure Hol where
 holder:Int
 entity:Int
 date:Int
 share:Int
def Hol.cells (a:Hol):List Value:=[.int .i64 a.holder,.int .i64 a.entity,.int .i64 a.date,.int .i64 a.share]
def Hol.val (a:Hol):Value:=.agg #[.int .i64 a.holder,.int .i64 a.entity,.int .i64 a.date,.int .i64 a.share]
theorem Hol.len (a:Hol):a.cells.length=4:=rfl
abbrev Hols (w:World) (ao:Option Addr) (l:List Hol) (cap b o:Nat):Prop:=Recs w 4 Hol.cells ao l cap b o
def pairB (h e:Int) (x:Hol):Bool:=x.holder == h && x.entity == e
def pickH (m x:Hol):Hol:=if m.date < x.date then x else m
def curH (d:Int) (l:List Hol):Option Hol:=l.foldl (fun c x=>if x.date≤d then (match c with | none=>some x | some m=>some (pickH m x)) else c) none
theorem curH_snoc (d:Int) (l:List Hol) (x:Hol):curH d (l ++ [x])=if x.date≤d then (match curH d l with | none=>some x | some m=>some (pickH m x)) else curH d l:=by
 simp [curH,List.foldl_append]
theorem curH_late {d:Int} {l:List Hol} {x:Hol} (h:¬ x.date≤d):curH d (l ++ [x])=curH d l:=by rw [curH_snoc,if_neg h]
theorem curH_first {d:Int} {l:List Hol} {x:Hol} (h:x.date≤d) (hc:curH d l=none):curH d (l ++ [x])=some x:=by rw [curH_snoc,if_pos h,hc]
theorem curH_new {d:Int} {l:List Hol} {x m:Hol} (h:x.date≤d) (hc:curH d l=some m) (hm:m.date < x.date):curH d (l ++ [x])=some x:=by rw [curH_snoc,if_pos h,hc];simp [pickH,hm]
theorem curH_old {d:Int} {l:List Hol} {x m:Hol} (h:x.date≤d) (hc:curH d l=some m) (hm:¬ m.date < x.date):curH d (l ++ [x])=some m:=by rw [curH_snoc,if_pos h,hc];simp [pickH,hm]
def ofPair (l:List Hol) (h e:Int):List Hol:=l.filter (pairB h e)
theorem ofPair_yes {l:List Hol} {h e:Int} {x:Hol} (hx:pairB h e x=true):ofPair (l ++ [x]) h e=ofPair l h e ++ [x]:=by simp [ofPair,hx]
theorem ofPair_no {l:List Hol} {h e:Int} {x:Hol} (hx:pairB h e x=false):ofPair (l ++ [x]) h e=ofPair l h e:=by simp [ofPair,hx]
theorem ofPair_len (l:List Hol) (h e:Int):(ofPair l h e).length≤l.length:=List.length_filter_le _ _
def shareOf (c:Option Hol):Int:=match c with | none=>0 | some m=>m.share
def sinceOf (c:Option Hol):Int:=match c with | none=>0 | some m=>m.date
def atH (l:List Hol) (h e d:Int):Int:=shareOf (curH d (ofPair l h e))
end Go.Proofs.YtoaidbhiciaeaaaGreat

end
