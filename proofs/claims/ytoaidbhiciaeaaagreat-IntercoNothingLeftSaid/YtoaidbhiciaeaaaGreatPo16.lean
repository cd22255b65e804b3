/- Walks and plain facts that the claim rests on (CtlRow, HolRSetP, HolKeepP, HolMatP, CloneI, HolMatW, HolOrdP). No condition. -/
import Derived.Test.YtoaidbhiciaeaaaGreatPo15
import Derived.OwnWalkIn
import Derived.Laws.MakeOwn
import Derived.Laws.OwnMore
import Derived.Test.YtoaidbhiciaeaaaGreatPo10
import Derived.Test.YtoaidbhiciaeaaaGreatPo07
import Derived.Test.YtoaidbhiciaeaaaGreatPo01
import Derived.Lib.SliceRun
set_option linter.unusedSimpArgs false
set_option linter.unusedVariables false
set_option maxHeartbeats 16000000
section
namespace Go.Proofs.YtoaidbhiciaeaaaGreat
open Go.RowKit
def RowB (W:World) (B:Nat) (t:TypeId) (vs:List Value):Prop:=W.heap[B]?=some (.cells vs.toArray t (0,0))
theorem RowB.new (W:World) (t:TypeId) (vs:List Value):RowB (W.alloc (.cells vs.toArray t)) W.heap.size t vs:=World.alloc_heap_new W _
theorem RowB.lt {W:World} {B:Nat} {t:TypeId} {vs:List Value} (h:RowB W B t vs):B < W.heap.size:=(Array.getElem?_eq_some_iff.1 h).1
theorem RowB.keeps {W W':World} {B:Nat} {t:TypeId} {vs:List Value} (h:RowB W B t vs) (k:Keeps W W'):RowB W' B t vs:=(k.block B h.lt).trans h
theorem RowB.kept {W W':World} {row:Option Nat} {B:Nat} {t:TypeId} {vs:List Value} (h:RowB W B t vs) (hg:W.grownBy W' row) (hne:some B≠row):RowB W' B t vs:=(hg.block B h.lt hne).trans h
theorem RowB.alloc {W:World} {B:Nat} {t:TypeId} {vs:List Value} (h:RowB W B t vs) (o:Obj):RowB (W.alloc o) B t vs:=h.kept (World.grownBy_alloc W o none) (by simp)
theorem RowB.cell {W:World} {B:Nat} {t:TypeId} {vs:List Value} (h:RowB W B t vs) (j:Nat) (u:Value) (hu:vs[j]?=some u):W.cell? ⟨B,j,none⟩=some u:=by
 simp [World.cell?,show W.heap[B]?=_ from h,hu]
theorem RowB.frozen {W:World} {B:Nat} {t:TypeId} {vs:List Value} (h:RowB W B t vs) (j:Nat):W.frozen? ⟨B,j,none⟩=false:=by simp [World.frozen?,show W.heap[B]?=_ from h]
theorem RowB.set {W:World} {B:Nat} {t:TypeId} {vs:List Value} (h:RowB W B t vs) (j:Nat) (u:Value):RowB (W.setCell ⟨B,j,none⟩ u) B t (vs.set j u):=by
 unfold RowB
 show (W.heap.modify B _)[B]?=_
 rw [Array.getElem?_modify,if_pos rfl,show W.heap[B]?=_ from h]
 simp
theorem RowB.other {W:World} {B:Nat} {t:TypeId} {vs:List Value} (h:RowB W B t vs) {p:Addr} (hne:p.block≠B) (u:Value):RowB (W.setCell p u) B t vs:=
 (Below.heap_setCell W p u B (fun e=>hne e.symm)).trans h
theorem RowB.own {β:Type} (B:Nat) (t:TypeId) (f:β→List Value):Own (fun s W=>RowB W B t (f s)):=fun s X Y row hs hg hrow=>
 hs.kept hg (fun e'=>by obtain ⟨o,ho,hc⟩:=hrow B e'.symm;rw [show X.heap[B]?=_ from hs] at ho;cases ho;cases hc)
theorem boxed_other {W:World} {B:Nat} {t:TypeId} {v:Value} (h:Boxed W B t v) {p:Addr} (hne:p.block≠B) (u:Value):Boxed (W.setCell p u) B t v:=
 (Below.heap_setCell W p u B (fun e=>hne e.symm)).trans h
theorem RowB.sl {W:World} {B:Nat} {t:TypeId} {vs:List Value} (h:RowB W B t vs) (hl:vs.length≤9223372036854775807):Sl W 1 (some ⟨B,0,none⟩) vs.length vs.length B 0 vs:=
 ⟨by simp,Nat.le_refl _,(fun h=>by cases h),hl,fun _=>rfl,fun j u hu=>by rw [Nat.zero_add];exact h.cell j u hu⟩
def fnI (φ:Nat→Int) (n:Nat):List Int:=(List.range n).map φ
theorem fnI_len (φ:Nat→Int) (n:Nat):(fnI φ n).length=n:=by simp [fnI]
def rowI (φ:Nat→Int) (n:Nat):List Value:=(fnI φ n).map (.int .i64)
theorem rowI_len (φ:Nat→Int) (n:Nat):(rowI φ n).length=n:=by simp [rowI,fnI]
theorem rowI_get (φ:Nat→Int) (n j:Nat) (hj:j < n):(rowI φ n)[j]?=some (.int .i64 (φ j)):=by simp [rowI,fnI,hj]
theorem rowI_congr {φ ψ:Nat→Int} {n:Nat} (h:∀ i < n,φ i=ψ i):rowI φ n=rowI ψ n:=by
 unfold rowI fnI
 rw [List.map_congr_left (fun i hi=>h i (List.mem_range.1 hi))]
def updI (φ:Nat→Int) (j:Nat) (x:Int):Nat→Int:=fun i=>if i=j then x else φ i
theorem rowI_set (φ:Nat→Int) (n j:Nat) (x:Int):(rowI φ n).set j (.int .i64 x)=rowI (updI φ j x) n:=by
 apply List.ext_getElem?
 intro i
 rw [List.getElem?_set]
 by_cases hi:i < n
 ·rw [rowI_get _ _ _ hi]
  by_cases hij:j=i
  ·subst hij;rw [if_pos rfl,if_pos (by rw [rowI_len];exact hi),rowI_get _ _ _ hi];show _=some (Value.int .i64 (if j=j then x else φ j));rw [if_pos rfl]
  ·rw [if_neg hij,rowI_get _ _ _ hi];show _=some (Value.int .i64 (if i=j then x else φ i));rw [if_neg (Ne.symm hij)]
 ·have h1:(rowI φ n)[i]?=none:=by rw [List.getElem?_eq_none];rw [rowI_len];omega
  have h2:(rowI (updI φ j x) n)[i]?=none:=by rw [List.getElem?_eq_none];rw [rowI_len];omega
  rw [h1,h2]
  split
  ·rw [if_neg (by rw [rowI_len];omega)]
  ·rfl
theorem rowI_zero (n:Nat):List.replicate n (Value.int .i64 0)=rowI (fun _=>0) n:=by
 apply List.ext_getElem?
 intro i
 by_cases hi:i < n
 ·rw [rowI_get _ _ _ hi];simp [hi]
 ·simp [rowI,fnI,hi]
theorem RowB.slI {W:World} {B:Nat} {t:TypeId} {φ:Nat→Int} {n:Nat} (h:RowB W B t (rowI φ n)) (hl:n≤9223372036854775807):Sl W 1 (some ⟨B,0,none⟩) n n B 0 ((fnI φ n).map (.int .i64)):=by
 have:=h.sl (by rw [rowI_len];exact hl)
 rw [rowI_len] at this
 exact this
theorem RowB.putObj {W:World} {B:Nat} {t:TypeId} {vs:List Value} (h:RowB W B t vs) (D:Nat) (o:Obj) (hne:D≠B):RowB (W.putObj D o) B t vs:=(World.putObj_heap_other (fun e=>hne e.symm)).trans h
theorem run_makeZ {P:Program} (w:World) (t e:TypeId) (i:TypeInfo) (z:Value) (h1:P.underlying t=some (.slice e)) (h2:P.info? e=some i) (h3:i.zero=some z) (h4:i.size=1) (hz:z.cells=#[z])
  (kl kc:IntKind) (n:Nat) (b2:i.bytes * n≤281474976710656) (b3:n≤9223372036854775807) :
  (Instr.makeSlice t (.int kl (n:Int)) (.int kc (n:Int))).run P w=.ok (.slice (some ⟨w.heap.size,0,none⟩) n n) (w.alloc (.cells (List.replicate n z).toArray e)):=by
 have hb:(i.bytes:Int) * (n:Int)≤281474976710656:=by
  have h:((i.bytes * n:Nat):Int)≤281474976710656:=by omega
  rwa [Int.natCast_mul] at h
 have:=run_make (P:=P) w t e i z h1 h2 h3 kl kc (n:Int) (n:Int) (by omega) (by omega) hb (by omega)
 rw [this,Int.toNat_natCast,h4,Nat.mul_one,hz]
 congr 2
 rw [← toList_madeCells_one]
theorem wpListIn_makeZ {F:Fence} {m:Nat} {P:Program} (w:World) {ops:Array Oper} {rest:List Oper} {o:Oper} {a:Act} {Q:Exit→Act→World→Prop}
  (hg:o.guard=none) (l c:Operand) (t:TypeId) (hop:o.op=Op.makeSlice t l c)
  (e:TypeId) (i:TypeInfo) (z:Value) (h1:P.underlying t=some (.slice e)) (h2:P.info? e=some i) (h3:i.zero=some z) (h4:i.size=1) (hz:z.cells=#[z])
  (kl kc:IntKind) (L C:Int) (n:Nat) (hl:a.eval l=.int kl L) (hc:a.eval c=.int kc C) (hL:L=(n:Int)) (hC:C=(n:Int)) (b2:i.bytes * n≤281474976710656) (b3:n≤9223372036854775807)
  (hK:wpListIn F m P ops Q rest (a.put o.dst (.slice (some ⟨w.heap.size,0,none⟩) n n)) (w.alloc (.cells (List.replicate n z).toArray e))) :
  wpListIn F m P ops Q (o :: rest) a w:=by
 refine wpListIn_plain hg fun K hK'=>?_
 have hrun:=run_makeZ (P:=P) w t e i z h1 h2 h3 h4 hz kl kc n b2 b3
 subst hL hC
 unfold Oper.wpIn
 refine ⟨?_,?_⟩
 ·simp [Oper.about,hop]
 ·rw [Oper.semAt_plain F _ _ (by rw [hop];intro c hc';cases hc')]
  simp [execOp,hop,hl,hc,hrun,Result.andThen]
  exact hK' _ _ hK
theorem wpList_makeZ {P:Program} (w:World) {ops:Array Oper} {rest:List Oper} {o:Oper} {a:Act} {Q:Exit→Act→World→Prop}
  (hg:o.guard=none) (l c:Operand) (t:TypeId) (hop:o.op=Op.makeSlice t l c)
  (e:TypeId) (i:TypeInfo) (z:Value) (h1:P.underlying t=some (.slice e)) (h2:P.info? e=some i) (h3:i.zero=some z) (h4:i.size=1) (hz:z.cells=#[z])
  (kl kc:IntKind) (L C:Int) (n:Nat) (hl:a.eval l=.int kl L) (hc:a.eval c=.int kc C) (hL:L=(n:Int)) (hC:C=(n:Int)) (b2:i.bytes * n≤281474976710656) (b3:n≤9223372036854775807)
  (hK:wpList P ops Q rest (a.put o.dst (.slice (some ⟨w.heap.size,0,none⟩) n n)) (w.alloc (.cells (List.replicate n z).toArray e))) :
  wpList P ops Q (o :: rest) a w:=by
 refine wpList_plain hg fun K hK'=>?_
 have hrun:=run_makeZ (P:=P) w t e i z h1 h2 h3 h4 hz kl kc n b2 b3
 subst hL hC
 unfold Oper.wp
 simp [execOp,hop,hl,hc,hrun,Result.andThen]
 exact hK' _ _ hK
end Go.Proofs.YtoaidbhiciaeaaaGreat

end
section
namespace Go.Proofs.YtoaidbhiciaeaaaGreat
theorem hvalidB_ok {n:Int} {l:List Hol} (h:hvalidB n l=true) {k:Nat} (hk:k < l.length):okH n l k=true:=by
 simp only [hvalidB,Bool.and_eq_true] at h
 exact List.all_eq_true.1 h.1.2 k (List.mem_range.2 hk)
theorem hvalidB_ne {n:Int} {l:List Hol} (h:hvalidB n l=true) {i k:Nat} (hk:k < l.length) (hi:i < k):sameH (l[i]'(by omega)) l[k]=false:=by
 have h1:=hvalidB_ok h hk
 rw [okH_at hk] at h1
 simp only [Bool.and_eq_true,Bool.not_eq_true',List.any_eq_false] at h1
 have:=h1.2 (l[i]'(by omega)) (by
  rw [List.mem_iff_getElem]
  exact ⟨i,by rw [List.length_take];omega,by rw [List.getElem_take]⟩)
 simpa using this
end Go.Proofs.YtoaidbhiciaeaaaGreat

end
section
namespace Go.Proofs.YtoaidbhiciaeaaaGreat
def rowH (l:List Hol) (n:Nat) (h day:Int):List Int:=(List.range n).map fun (e:Nat)=>atH l h (e:Int) day
def matH (l:List Hol) (n:Nat) (day:Int):List (List Int):=(List.range n).map fun (h:Nat)=>rowH l n (h:Int) day
def matR (n:Int) (l:List Hol) (day:Int):List (List Int) × Int:=if hvalidB n l=false then ([],1) else if dateB day=false then ([],2) else (matH l n.toNat day,0)
theorem matR_1 {n:Int} {l:List Hol} {day:Int} (h1:hvalidB n l=false):matR n l day=([],1):=by unfold matR;rw [if_pos h1]
theorem matR_2 {n:Int} {l:List Hol} {day:Int} (h1:hvalidB n l=true) (h2:dateB day=false):matR n l day=([],2):=by unfold matR;rw [if_neg (by simp [h1]),if_pos h2]
theorem matR_3 {n:Int} {l:List Hol} {day:Int} (h1:hvalidB n l=true) (h2:dateB day=true):matR n l day=(matH l n.toNat day,0):=by unfold matR;rw [if_neg (by simp [h1]),if_neg (by simp [h2])]
theorem rowH_snoc (l:List Hol) (n:Nat) (h day:Int):rowH l (n+1) h day=rowH l n h day ++ [atH l h (n:Int) day]:=by simp [rowH,List.range_succ]
theorem rowH_len (l:List Hol) (n:Nat) (h day:Int):(rowH l n h day).length=n:=by simp [rowH]
theorem matH_len (l:List Hol) (n:Nat) (day:Int):(matH l n day).length=n:=by simp [matH]
def rowsH (l:List Hol) (n k:Nat) (day:Int):List (List Int):=(List.range k).map fun (h:Nat)=>rowH l n (h:Int) day
theorem rowsH_snoc (l:List Hol) (n k:Nat) (day:Int):rowsH l n (k+1) day=rowsH l n k day ++ [rowH l n (k:Int) day]:=by simp [rowsH,List.range_succ]
theorem rowsH_len (l:List Hol) (n k:Nat) (day:Int):(rowsH l n k day).length=k:=by simp [rowsH]
theorem hvalidB_n {n:Int} {l:List Hol} (h:hvalidB n l=true):1≤n∧n≤12:=by
 simp only [hvalidB,Bool.and_eq_true,decide_eq_true_eq] at h
 exact ⟨h.1.1.1.1,h.1.1.1.2⟩
def pad12 (xs:List Int):List Value:=xs.map (.int .i64) ++ List.replicate (12 - xs.length) (.int .i64 0)
theorem pad12_set {xs:List Int} (h:xs.length < 12) (x:Int):(pad12 xs).set xs.length (.int .i64 x)=pad12 (xs ++ [x]):=by
 unfold pad12
 have e:12 - xs.length=(12 - (xs ++ [x]).length)+1:=by simp;omega
 rw [e,List.replicate_succ,List.set_append_right _ _ (by simp)]
 simp
end Go.Proofs.YtoaidbhiciaeaaaGreat

end
section
namespace Go.Proofs.YtoaidbhiciaeaaaGreat
open Go.RowKit
theorem ones_int (l:List Int):∀ u∈l.map (Value.int .i64),u.oneCell'=true:=fun u hu=>by
 obtain ⟨a,_,rfl⟩:=List.mem_map.1 hu
 rfl
theorem cloneI_any (ao:Option Addr) (l:List Int) (cap b o:Nat) (w:World) (H:Sl w 1 ao l.length cap b o (l.map (.int .i64))) (hlen:l.length≤1000000) :
  Calls Tryz.prog 197 #[.slice ao l.length cap] w fun e w'=>∃ v,e=.returned v∧w'.ownsRow w.heap.size 3 1 v l.length (l.map (.int .i64))∧Keeps w w':=by
 have hcap:=Sl.cap H
 have hle:=Sl.le H
 have HH:=Lib.hid H
 have HB:=Lib.hid (ones_int l)
 cases ao with
 | none=>
  have h0:=Sl.nocap H rfl
  have hl0:l=[]:=List.eq_nil_of_length_eq_zero (by omega)
  subst hl0
  obtain rfl:cap=0:=h0
  clear hcap hle
  simp only [List.length_nil]
  have hq:=Lib.run_eql_slice_nil (P:=Tryz.prog) w 69 3 none 0 0 0 0 Tryz.underlying69
  simp only [Option.isNone_none] at hq
  clear H
  go_enter Tryz.func197,Tryz.ntmps197
  go_wp2
  go_ret
  exact ⟨_,rfl,World.ownsRow_nil _ _ _ _,Keeps.refl w⟩
 | some ad=>
  have hq:=Lib.run_eql_slice_nil (P:=Tryz.prog) w 69 3 (some ad) l.length cap 0 0 Tryz.underlying69
  simp only [Option.isNone_some] at hq
  clear H
  go_enter Tryz.func197,Tryz.ntmps197
  go_wp2_with (at_builtin;(refine wpList_app_all elemInt rfl (.tmp 5) (.tmp 6) rfl w _ 0 [] rfl w.heap.size (own_empty (Nat.le_refl _)) (by exact ((Below.refl _ w).alloc (Nat.le_refl _) _)) (by simp) (some ad) l.length cap b o (l.map (.int .i64)) (by rfl) (by exact HH.out.keeps ((Keeps.refl w).alloc _)) HB.out (by omega) (by omega) ?_);intro v5 w5 hown5 hb5 hsz5;rw [Nat.zero_add,List.nil_append] at hown5;have HX:=Lib.hid (And.intro hown5 (show Keeps w w5 from hb5));clear hown5 hb5)
  go_ret
  exact ⟨_,rfl,HX.out.1,HX.out.2⟩
end Go.Proofs.YtoaidbhiciaeaaaGreat

end
section
namespace Go.Proofs.YtoaidbhiciaeaaaGreat
open Go.RowKit
theorem elemRows:ElemOf Tryz.prog 239 69 (.slice none 0 0) 1 24:=⟨Tryz.underlying239,by kernel_rfl,rfl,by omega⟩
theorem run_cutArr (B m:Nat) (hm:m≤12) (w:World):(Instr.sliceAt 154 (.pointer (some ⟨B,0,none⟩)) none (some (.int .i64 (m:Int))) none).run Tryz.prog w=.ok (.slice (some ⟨B,0,none⟩) m 12) w:=by
 have h1:(m:Int)≤12:=by omega
 go_simp
def Arr12 (W:World) (base B:Nat) (xs:List Int):Prop:=W.ownsRow base 154 1 (.slice (some ⟨B,0,none⟩) 12 12) 12 (pad12 xs)
theorem Arr12.made {w:World} {base:Nat} (hb:base≤w.heap.size):Arr12 (w.alloc (.cells #[.int .i64 0,.int .i64 0,.int .i64 0,.int .i64 0,.int .i64 0,.int .i64 0,.int .i64 0,.int .i64 0,.int .i64 0,.int .i64 0,.int .i64 0,.int .i64 0] 154)) base w.heap.size []:=by
 exact ⟨rfl,.inr ⟨w.heap.size,12,#[.int .i64 0,.int .i64 0,.int .i64 0,.int .i64 0,.int .i64 0,.int .i64 0,.int .i64 0,.int .i64 0,.int .i64 0,.int .i64 0,.int .i64 0,.int .i64 0],rfl,hb,World.alloc_heap_new w _,by omega,by unfold maxLen;omega,rfl,rfl⟩⟩
theorem Arr12.keeps {w w':World} {base B:Nat} {xs:List Int} (h:Arr12 w base B xs) (k:Keeps w w'):Arr12 w' base B xs:=own_keepsH h k
theorem Arr12.cell {w:World} {base B:Nat} {xs:List Int} (h:Arr12 w base B xs) (j:Nat) (hj:j < 12):(∃ v,w.cell? ⟨B,j,none⟩=some v)∧w.frozen? ⟨B,j,none⟩=false:=by
 obtain ⟨g,cap,e,h1,h2,h3⟩:=own_shapeH h (by omega)
 simp only [Value.slice.injEq,Option.some.injEq,Addr.mk.injEq,true_and] at e
 obtain ⟨⟨rfl,_⟩,_⟩:=e
 refine ⟨?_,h3 j⟩
 obtain ⟨ao,cap,b,e,hs⟩:=Sl.own h
 simp only [Value.slice.injEq,true_and] at e
 obtain ⟨rfl,rfl⟩:=e
 have ha:=hs.addr (by omega)
 simp only [Option.some.injEq,Addr.mk.injEq] at ha
 obtain ⟨rfl,_⟩:=ha
 have hl:(pad12 xs).length=12:=hs.len
 exact ⟨(pad12 xs)[j]'(by omega),by have:=hs.cell j _ (List.getElem?_eq_getElem (by omega));simpa using this⟩
theorem Arr12.set {w:World} {base B:Nat} {xs:List Int} (h:Arr12 w base B xs) (hx:xs.length < 12) (x:Int):Arr12 (w.setCell ⟨B,xs.length,none⟩ (.int .i64 x)) base B (xs ++ [x]):=by
 have:=own_setH h xs.length (.int .i64 x)
 rw [pad12_set hx] at this
 exact this
theorem Arr12.take {w:World} {base B:Nat} {xs:List Int} (h:Arr12 w base B xs):Sl w 1 (some ⟨B,0,none⟩) xs.length 12 B 0 (xs.map (.int .i64)):=by
 obtain ⟨ao,cap,b,e,hs⟩:=Sl.own h
 simp only [Value.slice.injEq,true_and] at e
 obtain ⟨rfl,rfl⟩:=e
 have ha:=hs.addr (by omega)
 simp only [Option.some.injEq,Addr.mk.injEq] at ha
 obtain ⟨rfl,_⟩:=ha
 have hl:(pad12 xs).length=12:=hs.len
 have hx:xs.length≤12:=by simp [pad12] at hl;omega
 have:=hs.take xs.length hx
 rw [show (pad12 xs).take (xs.length * 1)=xs.map (.int .i64) by simp [pad12]] at this
 exact this
set_option maxRecDepth 100000 in
theorem matrix_any (n:Int) (ao:Option Addr) (l:List Hol) (cap b o:Nat) (day:Int) (w:World) (H:Hols w ao l cap b o) (hlen:l.length≤900) (hok:∀ x∈l,x.Ok) :
  Calls Tryz.prog 194 #[.int .i64 n,.slice ao l.length cap,.int .i64 day] w (OutRows w (matR n l day)):=by
 have hcap:=Sl.cap H
 have hle:=Sl.le H
 have HH:=Lib.hid H
 obtain ⟨vl,hvl⟩:∃ vl,hvalidB n l=vl:=⟨_,rfl⟩
 obtain ⟨vd,hvd⟩:∃ vd,dateB day=vd:=⟨_,rfl⟩
 have HV:Hid (Calls Tryz.prog 39 #[.int .i64 n,.slice ao l.length cap] w fun e w'=>e=.returned (.bool vl)∧Keeps w w'):=Lib.hid (by have:=hvalid_any n ao l cap b o w H (by omega) hok;rw [hvl] at this;exact this)
 have HD:Hid (∀ W,Calls Tryz.prog 109 #[.int .i64 day] W fun e w'=>e=.returned (.bool vd)∧W=w'):=Lib.hid (fun W=>by have:=hdate_any day W;rw [hvd] at this;exact this)
 clear H hok
 cases vl with
 | false=>
  have HQ:=Lib.hid (matR_1 (day:=day) hvl)
  clear hvl hvd
  go_enter Tryz.func194,Tryz.ntmps194
  go_wp2_with (go_at_call 39;refine HV.out.mono ?_;rintro e1 w1 ⟨rfl,hk1⟩;have K1:=Lib.hid hk1;clear hk1)
  go_ret2
  exact OutRows.nil HQ.out K1.out
 | true=>
  cases vd with
  | false=>
   have HQ:=Lib.hid (matR_2 hvl hvd)
   clear hvl hvd
   go_enter Tryz.func194,Tryz.ntmps194
   go_wp2_with (first | (go_at_call 109;refine (HD.out _).mono ?_;rintro e2 w2 ⟨rfl,rfl⟩) | (go_at_call 39;refine HV.out.mono ?_;rintro e1 w1 ⟨rfl,hk1⟩;have K1:=Lib.hid hk1;clear hk1))
   go_ret2
   exact OutRows.nil HQ.out K1.out
  | true=>
   obtain ⟨hn1,hn2⟩:=hvalidB_n hvl
   have HQ:=Lib.hid (matR_3 hvl hvd)
   obtain ⟨m,rfl⟩:∃ m:Nat,n=(m:Int):=⟨n.toNat,by omega⟩
   have hm12:m≤12:=by omega
   clear hvl hvd hn1 hn2
   go_enter Tryz.func194,Tryz.ntmps194
   go_wp2_with (first | (go_at_call 109;refine (HD.out _).mono ?_;rintro e2 w2 ⟨rfl,rfl⟩) | (go_at_call 39;refine HV.out.mono ?_;rintro e1 w1 ⟨rfl,hk1⟩;have K1:=Lib.hid hk1;clear hk1))
   go_loopw [8,20] (fun vs vi wy=>∃ (k:Nat) (vv:List Value),k≤m∧vi=.int .i64 k∧Hid (Keeps w1 wy∧wy.ownsRow w1.heap.size 69 1 vs k vv∧RowsG wy vs.ownBlock vv (rowsH l m k day))) (fun _ vi _=>m - (intOf vi).toNat)
   case atStart=>exact ⟨0,[],Nat.zero_le _,rfl,Lib.hid ⟨Keeps.refl _,World.ownsRow_nil _ _ _ _,RowsG.nil _ _⟩⟩
   case round=>
    obtain ⟨k,vv,hk,rfl,HX⟩:=hrel
    obtain ⟨wo,rfl⟩:∃ wo:World,wo=wr:=⟨_,rfl⟩
    by_cases hlt:k < m
    ·have HA0:=Lib.hid (Arr12.made (w:=wo) (Nat.le_refl _))
     go_wp2_with fail
     go_loopw [24] (fun vi2 wy=>∃ j:Nat,j≤m∧vi2=.int .i64 j∧Hid (Keeps wo wy∧Arr12 wy wo.heap.size wo.heap.size (rowH l j (k:Int) day))) (fun vi2 _=>m - (intOf vi2).toNat)
     case atStart=>exact ⟨0,Nat.zero_le _,rfl,Lib.hid ⟨(Keeps.refl wo).alloc _,HA0.out⟩⟩
     case round=>
      obtain ⟨j,hj,rfl,HY⟩:=hrel
      by_cases hlj:j < m
      ·have HS:=Lib.hid (rowH_snoc l j (k:Int) day)
       go_wp2_with (go_at_call 111;refine (hat_any ao l cap b o (k:Int) (j:Int) day _ (HH.out.keeps (K1.out.trans (HX.out.1.trans HY.out.1)))).mono ?_;rintro e4 w4 ⟨rfl,hk4⟩;have HZ:=Lib.hid (And.intro (HY.out.1.trans hk4) (HY.out.2.keeps hk4));obtain ⟨⟨u4,c4⟩,f4⟩:=HZ.out.2.cell j (by omega);have hb4:=World.block_lt_of_cell? _ _ c4;clear hk4)
       go_roundw
       case rel=>exact ⟨j+1,by omega,by go_num,Lib.hid ⟨HZ.out.1.setCell (p:=⟨wo.heap.size,j,none⟩) (Nat.le_refl _) _,by rw [HS.out];have:=HZ.out.2.set (by rw [rowH_len];omega) (atH l (k:Int) (j:Int) day);rw [rowH_len] at this;exact this⟩⟩
       case measure=>simp [intOf];omega
      ·obtain rfl:j=m:=by omega
       have HSL:Hid (Sl wr 1 (some ⟨wo.heap.size,0,none⟩) (rowH l j (k:Int) day).length 12 wo.heap.size 0 ((rowH l j (k:Int) day).map (.int .i64))):=Lib.hid HY.out.2.take
       have HCL:=cloneI_any (some ⟨wo.heap.size,0,none⟩) (rowH l j (k:Int) day) 12 wo.heap.size 0 wr HSL.out (by rw [rowH_len];omega)
       rw [rowH_len] at HCL
       have HCL:=Lib.hid HCL
       have HS:=Lib.hid (rowsH_snoc l j k day)
       have HO:=Lib.hid (own_keepsH HX.out.2.1 HY.out.1)
       have HKR:=Lib.hid (HX.out.1.trans HY.out.1)
       have HRG:=Lib.hid (HX.out.2.2.keeps HY.out.1)
       have hcut:=run_cutArr wo.heap.size j hm12
       go_wp2_with (first | (go_at_call 197;refine HCL.out.mono ?_;rintro e6 w6 ⟨v6,rfl,hown6,hk6⟩;obtain ⟨ao6,cap6,b6,rfl,hs6⟩:=Sl.own hown6;clear hs6;have HI6:=Lib.hid (IntL.own (xs:=rowH l j (k:Int) day) (by rw [rowH_len];exact hown6));have HSP:=Lib.hid (sep_new HO.out hown6);have HO6:=Lib.hid (own_keepsH HO.out hk6);have HK6:=Lib.hid (HKR.out.trans hk6);have HRG6:=Lib.hid (HRG.out.keeps hk6);clear hown6 hk6) | (at_builtin;refine wpList_app_row elemRows rfl _ _ rfl w1 _ _ _ rfl w1.heap.size HO6.out HK6.out HK6.out.size _ (by exact HRG6.out) _ _ HI6.out (by exact HSP.out.1) HSP.out.2 _ 1 rfl rfl (by omega) (by omega) ?_;intro v5 w5 hown5 hrg5 hb5 hsz5;have HV5:Hid (Keeps w1 w5∧w5.ownsRow w1.heap.size 69 1 v5 (k+1) _∧RowsG w5 v5.ownBlock _ (rowsH l j (k+1) day)):=Lib.hid ⟨hb5,hown5,by rw [HS.out];exact hrg5⟩;clear hown5 hrg5 hb5 hsz5))
       go_roundw
       case rel=>exact ⟨k+1,_,by omega,by go_num,HV5⟩
       case measure=>simp [intOf];omega
    ·obtain rfl:k=m:=by omega
     obtain ⟨hky,howny,hrv⟩:=HX.out
     obtain ⟨ao7,cap7,b7,rfl,hrs⟩:=Rows.own (by rw [rowsH_len];exact howny) hrv.1
     have HRS:=Lib.hid hrs
     have HK:=Lib.hid (K1.out.trans hky)
     clear hky howny hrv hrs HX
     go_wp2_with fail
     go_ret2
     rw [HQ.out,Int.toNat_natCast]
     exact ⟨ao7,cap7,b7,0,rfl,HRS.out,HK.out⟩
end Go.Proofs.YtoaidbhiciaeaaaGreat

end
section
namespace Go.Proofs.YtoaidbhiciaeaaaGreat
theorem hvalidB_iff {n:Int} {l:List Hol}:hvalidB n l=true↔(1≤n∧n≤12∧l.length≤200)∧(∀ x∈l,properB n x=true)∧(l.Pairwise fun x y=>sameH x y=false)∧sumsB l=true:=by
 constructor
 ·intro h
  have h0:=h
  simp only [hvalidB,Bool.and_eq_true,decide_eq_true_eq] at h
  obtain ⟨⟨⟨⟨h1,h2⟩,h3⟩,h4⟩,h5⟩:=h
  have hk:∀ k < l.length,okH n l k=true:=fun k hk=>List.all_eq_true.1 h4 k (List.mem_range.2 hk)
  exact ⟨⟨h1,h2,h3⟩,okH_proper hk,List.pairwise_iff_getElem.2 fun i j hi hj hij=>hvalidB_ne h0 hj hij,h5⟩
 ·rintro ⟨⟨h1,h2,h3⟩,h4,h5,h6⟩
  rw [hvalidB_rest h1 h2 h3]
  ·exact h6
  ·intro k hk
   rw [okH_at hk,h4 _ (List.getElem_mem hk),Bool.true_and,Bool.not_eq_true',List.any_eq_false]
   intro a ha
   obtain ⟨i,hi,rfl⟩:=List.getElem_of_mem ha
   simp only [List.length_take] at hi
   rw [List.getElem_take]
   have:=(List.pairwise_iff_getElem.1 h5) i k (by omega) hk (by omega)
   simp [this]
end Go.Proofs.YtoaidbhiciaeaaaGreat

end
