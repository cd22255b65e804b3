/- Walks and plain facts that the claim rests on (ScopeS, BkI, FewW, PFindP, RegS). No condition. -/
import Derived.Test.YtoaidbhiciaeaaaGreatPo25
import Derived.Deep.RegionLaw
import Derived.Test.YtoaidbhiciaeaaaGreatPo21
import Derived.Test.YtoaidbhiciaeaaaGreatPo07
import Derived.Deep.MidRow
import Derived.Test.YtoaidbhiciaeaaaGreatPo01
import Derived.Lib.SliceRun
import Derived.Test.YtoaidbhiciaeaaaGreatPo09
set_option linter.unusedSimpArgs false
set_option linter.unusedVariables false
set_option maxHeartbeats 16000000
section
namespace Go.Proofs.YtoaidbhiciaeaaaGreat
open Go.RowKit
set_option maxRecDepth 100000 in
theorem rcur_any (G:Gc) (js:List Bool) (l:List Hol) (xs:List Int) (hxs:IsDates l xs) (en day:Int) (ao:Option Addr) (cap b o:Nat) (aol:Option Addr) (capl bl ol:Nat) (w:World) (HJ:Ents w ao js cap b o) (H:Hols w aol l capl bl ol) (hlen:l.length≤900) :
  Calls Tryz.prog 59 #[.agg #[G.c0,G.c1,G.c2,G.c3,G.c4,G.c5,G.c6,G.c7,G.c8,G.c9,G.c10,G.c11,G.c12,G.c13,G.c14,G.c15,G.c16,G.c17,G.c18,G.c19,.slice ao js.length cap],.slice aol l.length capl,.int .i64 en,.int .i64 day] w fun e w'=>e=.returned (.tuple #[(curR (ivR js l xs en) day).1.val,.int .i64 (curR (ivR js l xs en) day).2])∧Keeps w w':=by
 have hall:=fun W (hk:Keeps w W)=>rivals_any G js l xs hxs en ao cap b o aol capl bl ol W (HJ.keeps hk) (H.keeps hk) hlen
 have hcap:=HJ.capE
 have hle:=HJ.leE
 have hload:=(((RowB.new w 29 (grpC G (.slice ao js.length cap))).alloc (.cells #[.int .i64 0,.int .i64 0,.int .i64 0] 127))).range
 obtain ⟨⟨rl,re⟩,hr⟩:∃ r,ivR js l xs en=r:=⟨_,rfl⟩
 rw [hr] at hall ⊢
 have HI:Hid (∀ W,Keeps w W→Calls Tryz.prog 96 #[.agg #[G.c0,G.c1,G.c2,G.c3,G.c4,G.c5,G.c6,G.c7,G.c8,G.c9,G.c10,G.c11,G.c12,G.c13,G.c14,G.c15,G.c16,G.c17,G.c18,G.c19,.slice ao js.length cap],.slice aol l.length capl,.int .i64 en] W fun e w'=>∃ ao cap b o,e=.returned (.tuple #[.slice ao rl.length cap,.int .i64 re])∧Ivls w' ao rl cap b o∧Keeps W w'):=Lib.hid hall
 clear hall hr HJ H
 by_cases h0:re=0
 ·subst h0
  obtain ⟨vd,hvd⟩:∃ vd,dateB day=vd:=⟨_,rfl⟩
  have HD:Hid (∀ W,Calls Tryz.prog 94 #[.int .i64 day] W fun e w'=>e=.returned (.bool vd)∧W=w'):=Lib.hid (fun W=>by have:=hrdate_any day W;rw [hvd] at this;exact this)
  have HVD:=Lib.hid hvd
  clear hvd
  cases vd with
  | false=>
   have HC:=Lib.hid (cur_2 (curI_miss (l:=rl) (d:=day) fun h j hj=>by rw [HVD.out] at h;cases h))
   go_enter Tryz.func59,Tryz.ntmps59
   go_wp2_with (first | (refine wpList_load_mid rfl 29 _ rfl w.heap.size 0 rfl (grpC G (.slice ao js.length cap)) _ hload Tryz.underlying29 rfl groupSize ?_) | (go_at_call 96;(refine (HI.out _ (((Keeps.refl w).alloc _).alloc _)).mono ?_);rintro e w2 ⟨ao2,cap2,b2,o2,rfl,hs2,hk2⟩;have K2:=Lib.hid hk2;have HS2:=Lib.hid hs2;have hc2:=Sl.cap hs2;have hl2:=Sl.le hs2;have hx2:IvX w2 (w.heap.size+1) ⟨0,0,0⟩:=RowB.keeps (by have:=RowB.new (w.alloc (.cells (grpC G (.slice ao js.length cap)).toArray 29)) 127 (Ivl.cells ⟨0,0,0⟩);rw [World.size_alloc] at this;exact this) hk2;have HX2:=Lib.hid hx2;have x0:=RowB.cell hx2 0 _ rfl;have x1:=RowB.cell hx2 1 _ rfl;have x2:=RowB.cell hx2 2 _ rfl;have y0:=RowB.frozen hx2 0;have y1:=RowB.frozen hx2 1;have y2:=RowB.frozen hx2 2;have z0:=RowB.lt hx2;clear hs2 hk2 hx2) | (go_at_call 94;refine (HD.out _).mono ?_;rintro e w5 ⟨rfl,rfl⟩))
   refine bodyPost_ret (results_row_tmp rfl _ _ (w.heap.size+1) (Ivl.cells ⟨0,0,0⟩) _ rfl (RowB.range (IvX.set HX2.out ⟨0,0,0⟩)) Tryz.underlying127 rfl ivlSize) rfl ?_
   rw [HC.out]
   exact ⟨rfl,keeps_row3 ((((Keeps.refl w).alloc _).alloc _).trans K2.out) (Nat.le_succ _) _ _ _⟩
  | true=>
   go_enter Tryz.func59,Tryz.ntmps59
   go_wp2_with (first | (refine wpList_load_mid rfl 29 _ rfl w.heap.size 0 rfl (grpC G (.slice ao js.length cap)) _ hload Tryz.underlying29 rfl groupSize ?_) | (go_at_call 96;(refine (HI.out _ (((Keeps.refl w).alloc _).alloc _)).mono ?_);rintro e w2 ⟨ao2,cap2,b2,o2,rfl,hs2,hk2⟩;have K2:=Lib.hid hk2;have HS2:=Lib.hid hs2;have hc2:=Sl.cap hs2;have hl2:=Sl.le hs2;have hx2:IvX w2 (w.heap.size+1) ⟨0,0,0⟩:=RowB.keeps (by have:=RowB.new (w.alloc (.cells (grpC G (.slice ao js.length cap)).toArray 29)) 127 (Ivl.cells ⟨0,0,0⟩);rw [World.size_alloc] at this;exact this) hk2;have HX2:=Lib.hid hx2;have x0:=RowB.cell hx2 0 _ rfl;have x1:=RowB.cell hx2 1 _ rfl;have x2:=RowB.cell hx2 2 _ rfl;have y0:=RowB.frozen hx2 0;have y1:=RowB.frozen hx2 1;have y2:=RowB.frozen hx2 2;have z0:=RowB.lt hx2;clear hs2 hk2 hx2) | (go_at_call 94;refine (HD.out _).mono ?_;rintro e w5 ⟨rfl,rfl⟩))
   go_loopw [12] (fun vi wr=>∃ k:Nat,k≤rl.length∧vi=.int .i64 k∧Hid (wr=w2∧∀ j (hj:j < rl.length),j < k→dateB day=true→inI day rl[j]=false)) (fun vi _=>rl.length - (intOf vi).toNat)
   case atStart=>exact ⟨0,Nat.zero_le _,rfl,Lib.hid ⟨rfl,fun j _ hj=>absurd hj (Nat.not_lt_zero _)⟩⟩
   case round=>
    obtain ⟨k,hk,rfl,HX⟩:=hrel
    obtain rfl:=HX.out.1
    by_cases hlt:k < rl.length
    ·have c0:=HS2.out.cell Ivl.len k hlt 0 _ rfl
     have c1:=HS2.out.cell Ivl.len k hlt 1 _ rfl
     have c2:=HS2.out.cell Ivl.len k hlt 2 _ rfl
     have hix:=Sl.at HS2.out Tryz.underlying155 Tryz.sizeOf127 k hlt
     simp only [Nat.add_zero] at c0
     have hlb:=World.block_lt_of_cell? _ _ c0
     obtain ⟨z,hz⟩:∃ z,rl[k]=z:=⟨_,rfl⟩
     have HZ:=Lib.hid hz
     rw [hz] at c0 c1 c2
     clear hz
     by_cases h1:z.frm≤day
     ·have h1':decide (z.frm≤day)=true:=decide_eq_true h1
      by_cases h2:day < z.to
      ·have h2':decide (day < z.to)=true:=decide_eq_true h2
       have HC:Hid (curI rl day=some z):=Lib.hid (by
        have:=curI_hit HVD.out hlt (fun j hj hjk=>HX.out.2 j hj hjk HVD.out) (by rw [HZ.out];simp [inI,h1,h2])
        rw [HZ.out] at this;exact this)
       go_wp2_with fail
       refine bodyPost_ret (results_row_tmp rfl _ _ (w.heap.size+1) z.cells _ rfl (RowB.range (IvX.set HX2.out z)) Tryz.underlying127 rfl ivlSize) rfl ?_
       rw [cur_3 HC.out]
       exact ⟨rfl,keeps_row3 ((((Keeps.refl w).alloc _).alloc _).trans K2.out) (Nat.le_succ _) _ _ _⟩
      ·have h2':decide (day < z.to)=false:=decide_eq_false h2
       have HN:Hid (∀ j (hj:j < rl.length),j < k+1→dateB day=true→inI day rl[j]=false):=Lib.hid (fun j hj hjk h=>by
        by_cases e:j=k
        ·subst e;rw [HZ.out];simp [inI,h2]
        ·exact HX.out.2 j hj (by omega) h)
       go_wp2_with fail
       go_roundw
       case rel=>exact ⟨k+1,by omega,by go_num,Lib.hid ⟨by first | rfl | trivial,HN.out⟩⟩
       case measure=>simp [intOf];omega
     ·have h1':decide (z.frm≤day)=false:=decide_eq_false h1
      have HN:Hid (∀ j (hj:j < rl.length),j < k+1→dateB day=true→inI day rl[j]=false):=Lib.hid (fun j hj hjk h=>by
       by_cases e:j=k
       ·subst e;rw [HZ.out];simp [inI,h1]
       ·exact HX.out.2 j hj (by omega) h)
      go_wp2_with fail
      go_roundw
      case rel=>exact ⟨k+1,by omega,by go_num,Lib.hid ⟨by first | rfl | trivial,HN.out⟩⟩
      case measure=>simp [intOf];omega
    ·obtain rfl:k=rl.length:=by omega
     have HC:=Lib.hid (cur_2 (curI_miss (l:=rl) (d:=day) fun h j hj=>HX.out.2 j hj hj h))
     go_wp2_with fail
     refine bodyPost_ret (results_row_tmp rfl _ _ (w.heap.size+1) (Ivl.cells ⟨0,0,0⟩) _ rfl (RowB.range (IvX.set HX2.out ⟨0,0,0⟩)) Tryz.underlying127 rfl ivlSize) rfl ?_
     rw [HC.out]
     exact ⟨rfl,keeps_row3 ((((Keeps.refl w).alloc _).alloc _).trans K2.out) (Nat.le_succ _) _ _ _⟩
 ·have HQ:=Lib.hid (cur_1 (r:=(rl,re)) (d:=day) h0)
  have e3:(!(re == 0))=true:=by simpa using h0
  go_enter Tryz.func59,Tryz.ntmps59
  go_wp2_with (first | (refine wpList_load_mid rfl 29 _ rfl w.heap.size 0 rfl (grpC G (.slice ao js.length cap)) _ hload Tryz.underlying29 rfl groupSize ?_) | (go_at_call 96;(refine (HI.out _ (((Keeps.refl w).alloc _).alloc _)).mono ?_);rintro e w2 ⟨ao2,cap2,b2,o2,rfl,hs2,hk2⟩;have K2:=Lib.hid hk2;have HS2:=Lib.hid hs2;have hc2:=Sl.cap hs2;have hl2:=Sl.le hs2;have hx2:IvX w2 (w.heap.size+1) ⟨0,0,0⟩:=RowB.keeps (by have:=RowB.new (w.alloc (.cells (grpC G (.slice ao js.length cap)).toArray 29)) 127 (Ivl.cells ⟨0,0,0⟩);rw [World.size_alloc] at this;exact this) hk2;have HX2:=Lib.hid hx2;have x0:=RowB.cell hx2 0 _ rfl;have x1:=RowB.cell hx2 1 _ rfl;have x2:=RowB.cell hx2 2 _ rfl;have y0:=RowB.frozen hx2 0;have y1:=RowB.frozen hx2 1;have y2:=RowB.frozen hx2 2;have z0:=RowB.lt hx2;clear hs2 hk2 hx2))
  refine bodyPost_ret (results_row_tmp rfl _ _ (w.heap.size+1) (Ivl.cells ⟨0,0,0⟩) _ rfl (RowB.range (IvX.set HX2.out ⟨0,0,0⟩)) Tryz.underlying127 rfl ivlSize) rfl ?_
  rw [HQ.out]
  exact ⟨rfl,keeps_row3 ((((Keeps.refl w).alloc _).alloc _).trans K2.out) (Nat.le_succ _) _ _ _⟩
end Go.Proofs.YtoaidbhiciaeaaaGreat

end
section
namespace Go.Proofs.YtoaidbhiciaeaaaGreat
open Go.RowKit Go.Maps
structure Ln where
 acc:Int
 amt:Int
 ptn:Int
def Ln.cells (l:Ln):List Value:=[.int .i64 l.acc,.int .i64 l.amt,.int .i64 l.ptn]
theorem Ln.len (l:Ln):l.cells.length=3:=rfl
structure Jrn where
 id:Int
 ent:Int
 date:Int
 kind:Int
 of_:Int
 text:ByteArray
 lines:List Ln
structure JV where
 x:Jrn
 a:Option Addr
 c:Nat
 b:Nat
 o:Nat
def JV.cells (e:JV):List Value:=[.int .i64 e.x.id,.int .i64 e.x.ent,.int .i64 e.x.date,.int .i64 e.x.kind,.int .i64 e.x.of_,.string e.x.text,.slice e.a e.x.lines.length e.c]
theorem JV.len (e:JV):e.cells.length=7:=rfl
structure Jrns (w:World) (es:List JV) (ao:Option Addr) (cap b o:Nat):Prop where
 row:Recs w 7 JV.cells ao es cap b o
 lines:∀ e∈es,Recs w 3 Ln.cells e.a e.x.lines e.c e.b e.o
theorem Jrns.keeps {w w':World} {es:List JV} {ao:Option Addr} {cap b o:Nat} (h:Jrns w es ao cap b o) (k:Keeps w w'):Jrns w' es ao cap b o:=
 ⟨h.row.keeps k,fun e he=>(h.lines e he).keeps k⟩
theorem box_range (w:World) (bv:List Value) (ty:TypeId):(w.alloc (.cells bv.toArray ty)).rangeAt w.heap.size 0 bv:=fun j v hv=>by
 rw [Nat.zero_add,cell_of_row (w.alloc (.cells bv.toArray ty)) w.heap.size j bv.toArray ty (0,0) (heap_alloc_new w _)]
 simpa using hv
structure Rf where
 e:Int
 l:Int
def Rf.cells (r:Rf):List Value:=[.int .i64 r.e,.int .i64 r.l]
theorem Rf.len (r:Rf):r.cells.length=2:=rfl
def Ln.Ok (l:Ln):Prop:=I64 l.acc∧I64 l.amt∧I64 l.ptn
def Jrn.Ok (x:Jrn):Prop:=I64 x.id∧I64 x.ent∧I64 x.date∧I64 x.kind∧I64 x.of_∧∀ l∈x.lines,l.Ok
theorem own_block {w:World} {base e size n cap b o:Nat} {ao:Option Addr} {xs:List Value} (h:w.ownsRow base e size (.slice ao n cap) n xs) (hs:Sl w size ao n cap b o xs):0 < n→base≤b:=fun hn=>by
 have ha:=hs.addr hn
 subst ha
 exact (h.lt b rfl).1
theorem there_newP (w:World) (t:TypeId) (vs:List Value):(w.alloc (.cells vs.toArray t)).there w.heap.size 0 vs.length:=fun j hj=>by
 rw [Nat.zero_add]
 have hh:=heap_alloc_new w (.cells vs.toArray t)
 exact ⟨by rw [cell_of_row _ w.heap.size j vs.toArray t (0,0) hh];simp [hj],frozen_of_row _ w.heap.size j vs.toArray t hh⟩
theorem keeps_setCellsP {a:World} {B:Nat} (hB:a.heap.size≤B):∀ (vs:List Value) (o:Nat) (b:World),Keeps a b→Keeps a (b.setCells B o vs)
 | [],_,_,h=>h
 | v :: vs,o,b,h=>keeps_setCellsP hB vs (o+1) _ (h.setCell (p:=⟨B,o,none⟩) hB v)
theorem range_setCells {w:World} {B p b o:Nat} {cs:List Value} (h:w.rangeAt b o cs) (hb:b≠B) (vs:List Value):(w.setCells B p vs).rangeAt b o cs:=fun j v hv=>by
 rw [World.cell?_setCells_out B vs p w ⟨b,o+j,none⟩ (fun e=>absurd e hb)]
 exact h j v hv
theorem there_keeps {w w':World} {b o n:Nat} (h:w.there b o n) (k:Keeps w w'):w'.there b o n:=fun j hj=>by
 obtain ⟨h1,h2⟩:=h j hj
 obtain ⟨v,hv⟩:=Option.isSome_iff_exists.1 h1
 exact ⟨by rw [k.cell hv];rfl,k.frz hv h2⟩
theorem sl_setCells {w:World} {sz:Nat} {ao:Option Addr} {n cap b o B:Nat} {cs:List Value} (h:Sl w sz ao n cap b o cs) (hb:b≠B) (vs:List Value) (p:Nat):Sl (w.setCells B p vs) sz ao n cap b o cs:=
 ⟨h.len,h.le,h.nocap,h.cap,h.addr,fun j u hu=>by
  rw [World.cell?_setCells_out B vs p w ⟨b,o+j,none⟩ (fun e=>absurd e hb)]
  exact h.cell j u hu⟩
theorem Jrns.setCells {w:World} {es:List JV} {ao:Option Addr} {cap b o B:Nat} (h:Jrns w es ao cap b o) (hb:b≠B) (he:∀ e∈es,e.b≠B) (vs:List Value) (p:Nat):Jrns (w.setCells B p vs) es ao cap b o:=
 ⟨sl_setCells h.row hb vs p,fun e hm=>sl_setCells (h.lines e hm) (he e hm) vs p⟩
theorem keyOf_ref {a b:Int} (ha:I64 a) (hb:I64 b):keyOf Tryz.prog 51 (.agg #[.int .i64 a,.int .i64 b])=some (.string (keyBytes [.int .i64 a,.int .i64 b])):=by
 unfold keyOf
 rw [Tryz.underlying51]
 have h1:Tryz.prog.keyType 51=true:=by kernel_rfl
 have h2:(Value.agg #[.int .i64 a,.int .i64 b]).formed Tryz.prog 51=true:=by
  have:Tryz.prog.cellsOf 51=2:=by kernel_rfl
  simp [Value.formed,Tryz.underlying51,this]
 have hs:Tryz.prog.types.size=(Tryz.prog.types.size - 1)+1:=by
  have:0 < Tryz.prog.types.size:=of_decide_eq_true (by kernel_rfl)
  omega
 have h3:Tryz.prog.keyLits (Tryz.prog.types.size+1) 51 [.int .i64 a,.int .i64 b]=some [.int .i64 a,.int .i64 b]:=by
  have hi:∀ d x,I64 x→Tryz.prog.keyLits (d+1) 3 [.int .i64 x]=some [.int .i64 x]:=fun d x h=>keyLits_int Tryz.underlying3 h
  have c2:Tryz.prog.cellsOf 51=2:=by kernel_rfl
  have c1:Tryz.prog.cellsOf 3=1:=by kernel_rfl
  unfold Program.keyLits
  rw [Tryz.underlying51]
  rw [hs]
  simp [c2,c1,hi,ha,hb]
 simp only [h1,h2,Bool.and_self,if_true]
 show (Tryz.prog.keyLits (Tryz.prog.types.size+1) 51 [.int .i64 a,.int .i64 b]).map _=_
 rw [h3]
 rfl
theorem refKeyed:Keyed Tryz.prog 51:=Keyed.of_law (deep_law_laid laidOutK (m:=2) (by omega) (of_decide_eq_true (by kernel_rfl)) (by kernel_rfl) (by rw [Tryz.underlying51]))
def Rf.Ok (r:Rf):Prop:=I64 r.e∧I64 r.l
def refK:KeyEnc Tryz.prog 51 Rf where
 enc l:=.agg #[.int .i64 l.e,.int .i64 l.l]
 lit l:=.string (keyBytes [.int .i64 l.e,.int .i64 l.l])
 ok:=Rf.Ok
 keyed:=refKeyed
 key l h:=keyOf_ref h.1 h.2
 inj a b _ _ h:=by
  obtain ⟨a0,a1⟩:=a
  obtain ⟨b0,b1⟩:=b
  simpa using h
def setM (M:Rf→Bool):Rf→Option Value:=fun r=>if M r then some (.bool true) else none
theorem setM_get (M:Rf→Bool) (r:Rf):(setM M r).getD (.bool false)=.bool (M r):=by
 unfold setM;cases M r <;> rfl
structure Mt where
 id:Int
 left:List Rf
 right:List Rf
 state:Int
structure MV where
 x:Mt
 al:Option Addr
 cl:Nat
 bl:Nat
 ol:Nat
 ar:Option Addr
 cr:Nat
 br:Nat
 or_:Nat
def MV.cells (m:MV):List Value:=[.int .i64 m.x.id,.slice m.al m.x.left.length m.cl,.slice m.ar m.x.right.length m.cr,.int .i64 m.x.state]
theorem MV.len (m:MV):m.cells.length=4:=rfl
structure Mts (w:World) (ms:List MV) (ao:Option Addr) (cap b o:Nat):Prop where
 row:Recs w 4 MV.cells ao ms cap b o
 left:∀ m∈ms,Recs w 2 Rf.cells m.al m.x.left m.cl m.bl m.ol
 right:∀ m∈ms,Recs w 2 Rf.cells m.ar m.x.right m.cr m.br m.or_
theorem Mts.keeps {w w':World} {ms:List MV} {ao:Option Addr} {cap b o:Nat} (h:Mts w ms ao cap b o) (k:Keeps w w'):Mts w' ms ao cap b o:=
 ⟨h.row.keeps k,fun e he=>(h.left e he).keeps k,fun e he=>(h.right e he).keeps k⟩
def Mt.Ok (m:Mt):Prop:=(∀ r∈m.left,r.Ok)∧∀ r∈m.right,r.Ok
structure Bks (w:World) (bv:List Value) (es:List JV) (ms:List MV):Prop where
 len:bv.length=27
 one:∀ v∈bv,v.oneCell'=true
 ents:∃ ao cap b o,bv[21]?=some (.slice ao es.length cap)∧Jrns w es ao cap b o
 mts:∃ ao cap b o,bv[24]?=some (.slice ao ms.length cap)∧Mts w ms ao cap b o
 ok:∀ e∈es,e.x.Ok
 mok:∀ m∈ms,m.x.Ok
theorem Bks.keeps {w w':World} {bv:List Value} {es:List JV} {ms:List MV} (h:Bks w bv es ms) (k:Keeps w w'):Bks w' bv es ms:=by
 obtain ⟨ao,cap,b,o,h1,h2⟩:=h.ents
 obtain ⟨ao2,cap2,b2,o2,h3,h4⟩:=h.mts
 exact ⟨h.len,h.one,⟨ao,cap,b,o,h1,h2.keeps k⟩,⟨ao2,cap2,b2,o2,h3,h4.keeps k⟩,h.ok,h.mok⟩
end Go.Proofs.YtoaidbhiciaeaaaGreat

end
section
namespace Go.Proofs.YtoaidbhiciaeaaaGreat
open Go.RowKit
def fewE (e:JV):Bool:=decide (e.x.lines.length≤8)
def fewM (m:MV):Bool:=decide (wrap64 ((m.x.left.length:Int)+(m.x.right.length:Int))≤20)
def fewB (es:List JV) (ms:List MV):Bool:=es.all fewE && ms.all fewM && decide (es.length≤40) && decide (ms.length≤20)
theorem fewB_spec {es:List JV} {ms:List MV} (h:fewB es ms=true):(∀ e∈es,e.x.lines.length≤8)∧es.length≤40∧ms.length≤20∧∀ m∈ms,wrap64 ((m.x.left.length:Int)+(m.x.right.length:Int))≤20:=by
 simp only [fewB,Bool.and_eq_true,List.all_eq_true,decide_eq_true_eq,fewE,fewM] at h
 exact ⟨h.1.1.1,h.1.2,h.2,h.1.1.2⟩
set_option maxRecDepth 100000 in
theorem few_any (bv:List Value) (es:List JV) (ms:List MV) (w:World) (H:Bks w bv es ms) :
  Calls Tryz.prog 24 #[.agg bv.toArray] w fun e w'=>e=.returned (.bool (fewB es ms))∧Keeps w w':=by
 obtain ⟨ao1,cap1,b1,o1,he1,hj⟩:=H.ents
 obtain ⟨ao2,cap2,b2,o2,he2,hm⟩:=H.mts
 have HJ:=Lib.hid hj
 have HM:=Lib.hid hm
 have h1:=Sl.le hj.row
 have h2:=Sl.cap hj.row
 have h3:=Sl.le hm.row
 have h4:=Sl.cap hm.row
 have hrg:=box_range w bv 36
 have c21:=hrg 21 _ he1
 have c24:=hrg 24 _ he2
 simp only [Nat.zero_add] at c21 c24
 have hk0:Keeps w (w.alloc (.cells bv.toArray 36)):=(Keeps.refl w).alloc _
 obtain ⟨W1,hW1⟩:∃ W1,w.alloc (.cells bv.toArray 36)=W1:=⟨_,rfl⟩
 rw [hW1] at c21 c24 hk0
 have HK0:=Lib.hid hk0
 clear hj hm hrg H hk0
 go_enter Tryz.func24,Tryz.ntmps24
 go_wp2_with fail
 try rw [hW1]
 clear hW1
 go_loopw [3] (fun vi wr=>∃ k:Nat,k≤es.length∧vi=.int .i64 k∧wr=W1∧Hid (∀ e∈es.take k,fewE e=true)) (fun vi _=>es.length - (intOf vi).toNat)
 case atStart=>exact ⟨0,Nat.zero_le _,rfl,rfl,Lib.hid (by simp)⟩
 case round=>
  obtain ⟨k,hk,rfl,rfl,HZ⟩:=hrel
  by_cases hlt:k < es.length
  ·have hr:=HJ.out.row.keeps HK0.out
   have hix:=Sl.at hr Tryz.underlying30 Tryz.sizeOf56 k hlt
   obtain ⟨y,hy⟩:∃ y,es[k]=y:=⟨_,rfl⟩
   have c6:=hr.cell JV.len k hlt 6 (.slice y.a y.x.lines.length y.c) (by rw [hy];rfl)
   have hf:fewE es[k]=decide (y.x.lines.length≤8):=by rw [hy];rfl
   by_cases h8:y.x.lines.length≤8
   ·have e8:decide ((8:Int) < (y.x.lines.length:Int))=false:=by simp;omega
    have HZ2:Hid (∀ e∈es.take (k+1),fewE e=true):=Lib.hid (by
     rw [take_snoc _ k hlt]
     intro q hq
     rcases List.mem_append.1 hq with h | h
     ·exact HZ.out q h
     ·rw [List.mem_singleton] at h;rw [h,hf];simpa using h8)
    clear hr hy hf h8
    go_wp2_with fail
    go_roundw
    case rel=>exact ⟨k+1,by omega,by go_num,by first | rfl | trivial,HZ2⟩
    case measure=>simp [intOf];omega
   ·have e8:decide ((8:Int) < (y.x.lines.length:Int))=true:=by simp;omega
    have HF:Hid (fewB es ms=false):=Lib.hid (by
     have:es.all fewE=false:=by rw [List.all_eq_false];exact ⟨es[k],List.getElem_mem ..,by rw [hf];simpa using h8⟩
     rw [fewB,this];rfl)
    clear hr hy hf h8
    go_wp2_with fail
    go_ret
    exact ⟨by rw [HF.out];rfl,HK0.out⟩
  ·obtain rfl:k=es.length:=by omega
   have HZA:Hid (es.all fewE=true):=Lib.hid (by
    rw [List.all_eq_true]
    have:=HZ.out
    rwa [List.take_length] at this)
   clear HZ
   obtain ⟨wo,rfl⟩:∃ wo:World,wo=wr:=⟨_,rfl⟩
   go_wp2_with fail
   go_loopw [4] (fun vi w2=>∃ k q:Nat,k≤ms.length∧vi=.int .i64 k∧w2=wo.drewN q∧Hid (∀ e∈ms.take k,fewM e=true)) (fun vi _=>ms.length - (intOf vi).toNat)
   case atStart=>exact ⟨0,0,Nat.zero_le _,rfl,rfl,Lib.hid (by simp)⟩
   case round=>
    obtain ⟨k,q,hk,rfl,rfl,HZ⟩:=hrel
    by_cases hlt:k < ms.length
    ·have hr:=HM.out.row.keeps HK0.out
     have hix:=Sl.at hr Tryz.underlying33 Tryz.sizeOf48 k hlt
     obtain ⟨y,hy⟩:∃ y,ms[k]=y:=⟨_,rfl⟩
     have d1:=hr.cell MV.len k hlt 1 (.slice y.al y.x.left.length y.cl) (by rw [hy];rfl)
     have d2:=hr.cell MV.len k hlt 2 (.slice y.ar y.x.right.length y.cr) (by rw [hy];rfl)
     have hf:fewM ms[k]=decide (wrap64 ((y.x.left.length:Int)+(y.x.right.length:Int))≤20):=by rw [hy];rfl
     by_cases h8:wrap64 ((y.x.left.length:Int)+(y.x.right.length:Int))≤20
     ·have e8:decide ((20:Int) < wrap64 ((y.x.left.length:Int)+(y.x.right.length:Int)))=false:=by simpa using h8
      have HZ2:Hid (∀ e∈ms.take (k+1),fewM e=true):=Lib.hid (by
       rw [take_snoc _ k hlt]
       intro q hq
       rcases List.mem_append.1 hq with h | h
       ·exact HZ.out q h
       ·rw [List.mem_singleton] at h;rw [h,hf];simpa using h8)
      clear hr hy hf h8
      go_wp2_with fail
      go_quiet (fail)
      go_wp2_with fail
      go_roundw
      case rel=>exact ⟨k+1,_,by omega,by go_num,rfl,HZ2⟩
      case measure=>simp [intOf];omega
     ·have e8:decide ((20:Int) < wrap64 ((y.x.left.length:Int)+(y.x.right.length:Int)))=true:=by simpa using h8
      have HF:Hid (fewB es ms=false):=Lib.hid (by
       have:ms.all fewM=false:=by rw [List.all_eq_false];exact ⟨ms[k],List.getElem_mem ..,by rw [hf];simpa using h8⟩
       rw [fewB,this,Bool.and_false];rfl)
      clear hr hy hf h8
      go_wp2_with fail
      go_quiet (fail)
      go_wp2_with fail
      go_ret
      exact ⟨by rw [HF.out];rfl,(HK0.out.drewN _).drewN _⟩
    ·obtain rfl:k=ms.length:=by omega
     have HF:Hid (fewB es ms=(decide (es.length≤40) && decide (ms.length≤20))):=Lib.hid (by
      have:ms.all fewM=true:=by
       rw [List.all_eq_true]
       have:=HZ.out
       rwa [List.take_length] at this
      rw [fewB,this,HZA.out];rfl)
     by_cases g1:es.length≤40
     ·have e1:decide ((es.length:Int)≤40)=true:=by simp;omega
      by_cases g2:ms.length≤20
      ·have e2:decide ((ms.length:Int)≤20)=true:=by simp;omega
       have HG:Hid (fewB es ms=true):=Lib.hid (by rw [HF.out];simp [g1,g2])
       go_wp2_with fail
       go_ret
       exact ⟨by rw [HG.out];rfl,HK0.out.drewN _⟩
      ·have e2:decide ((ms.length:Int)≤20)=false:=by simp;omega
       have HG:Hid (fewB es ms=false):=Lib.hid (by rw [HF.out];simp [g2])
       go_wp2_with fail
       go_ret
       exact ⟨by rw [HG.out];rfl,HK0.out.drewN _⟩
     ·have e1:decide ((es.length:Int)≤40)=false:=by simp;omega
      have HG:Hid (fewB es ms=false):=Lib.hid (by rw [HF.out];simp [g1])
      go_wp2_with fail
      go_ret
      exact ⟨by rw [HG.out];rfl,HK0.out.drewN _⟩
end Go.Proofs.YtoaidbhiciaeaaaGreat

end
section
namespace Go.Proofs.YtoaidbhiciaeaaaGreat
open Go.RowKit
theorem elemLn:ElemOf Tryz.prog 54 103 (.agg #[.int .i64 0,.int .i64 0,.int .i64 0]) 3 24:=⟨Tryz.underlying54,by kernel_rfl,rfl,by omega⟩
theorem ones_ln (l:List Ln):∀ u∈l.flatMap Ln.cells,u.oneCell'=true:=fun u hu=>by
 obtain ⟨a,_,hu⟩:=List.mem_flatMap.1 hu
 simp [Ln.cells] at hu
 rcases hu with rfl | rfl | rfl <;> rfl
theorem cloneL_any (ao:Option Addr) (l:List Ln) (cap b o:Nat) (w:World) (H:Recs w 3 Ln.cells ao l cap b o) (hlen:l.length≤1000) :
  Calls Tryz.prog 176 #[.slice ao l.length cap] w fun e w'=>∃ v,e=.returned v∧w'.ownsRow w.heap.size 103 3 v l.length (l.flatMap Ln.cells)∧Keeps w w':=by
 have hcap:=Sl.cap H
 have hle:=Sl.le H
 have HH:=Lib.hid H
 have HB:=Lib.hid (ones_ln l)
 cases ao with
 | none=>
  have h0:=Sl.nocap H rfl
  have hl0:l=[]:=List.eq_nil_of_length_eq_zero (by omega)
  subst hl0
  obtain rfl:cap=0:=h0
  clear hcap hle
  simp only [List.length_nil]
  have hq:=Lib.run_eql_slice_nil (P:=Tryz.prog) w 54 103 none 0 0 0 0 Tryz.underlying54
  simp only [Option.isNone_none] at hq
  clear H
  go_enter Tryz.func176,Tryz.ntmps176
  go_wp2
  go_ret
  exact ⟨_,rfl,World.ownsRow_nil _ _ _ _,Keeps.refl w⟩
 | some ad=>
  have hq:=Lib.run_eql_slice_nil (P:=Tryz.prog) w 54 103 (some ad) l.length cap 0 0 Tryz.underlying54
  simp only [Option.isNone_some] at hq
  clear H
  go_enter Tryz.func176,Tryz.ntmps176
  go_wp2_with (at_builtin;(refine wpList_app_all elemLn rfl (.tmp 5) (.tmp 6) rfl w _ 0 [] rfl w.heap.size (own_empty (Nat.le_refl _)) (by exact ((Below.refl _ w).alloc (Nat.le_refl _) _)) (by simp) (some ad) l.length cap b o (l.flatMap Ln.cells) (by rfl) (by exact HH.out.keeps ((Keeps.refl w).alloc _)) HB.out (by omega) (by omega) ?_);intro v5 w5 hown5 hb5 hsz5;rw [Nat.zero_add,List.nil_append] at hown5;have HX:=Lib.hid (And.intro hown5 (show Keeps w w5 from hb5));clear hown5 hb5)
  go_ret
  exact ⟨_,rfl,HX.out.1,HX.out.2⟩
theorem find1_any (e:JV) (B:Nat) (i:Int) (w:World) (hi:w.cell? ⟨B,0,none⟩=some (.int .i64 i)) :
  Calls Tryz.prog 175 #[.agg #[.int .i64 e.x.id,.int .i64 e.x.ent,.int .i64 e.x.date,.int .i64 e.x.kind,.int .i64 e.x.of_,.string e.x.text,.slice e.a e.x.lines.length e.c],.pointer (some ⟨B,0,none⟩)] w
   fun en w'=>en=.returned (.bool (e.x.id == i))∧Keeps w w':=by
 have hb:=World.block_lt_of_cell? _ _ hi
 go_enter Tryz.func175,Tryz.ntmps175
 go_wp2_with fail
 go_ret
 exact ⟨rfl,(Keeps.refl w).alloc _⟩
def FstE (es:List JV) (i:Int) (k:Nat):Prop:=(∀ e∈es.take k,e.x.id≠i)∧k≤es.length∧∀ h:k < es.length,es[k].x.id=i
theorem idxE_any (es:List JV) (ao:Option Addr) (cap b o B:Nat) (i:Int) (w:World) (H:Jrns w es ao cap b o) (hi:w.cell? ⟨B,0,none⟩=some (.int .i64 i)) :
  Calls Tryz.prog 174 #[.slice ao es.length cap,.func (.func 175) #[] #[.pointer (some ⟨B,0,none⟩)]] w
   fun en w'=>∃ k,FstE es i k∧en=.returned (.int .i64 (if k < es.length then (k:Int) else -1))∧Keeps w w':=by
 have hcap:=Sl.cap H.row
 have hle:=Sl.le H.row
 have HH:=Lib.hid H
 clear H
 go_enter Tryz.func174,Tryz.ntmps174
 go_wp2_with fail
 go_loopw [8] (fun vi wr=>∃ k:Nat,k≤es.length∧vi=.int .i64 k∧Hid (∀ e∈es.take k,e.x.id≠i)∧Hid (Keeps w wr)) (fun vi _=>es.length - (intOf vi).toNat)
 case atStart=>exact ⟨0,Nat.zero_le _,rfl,Lib.hid (by simp),Lib.hid (Keeps.refl w)⟩
 case round=>
  obtain ⟨k,hk,rfl,HN,HW⟩:=hrel
  by_cases hlt:k < es.length
  ·have hr:=HH.out.row.keeps HW.out
   have hix:=Sl.at hr Tryz.underlying30 Tryz.sizeOf56 k hlt
   obtain ⟨y,hy⟩:∃ y,es[k]=y:=⟨_,rfl⟩
   have c0:=hr.cell JV.len k hlt 0 (.int .i64 y.x.id) (by rw [hy];rfl)
   rw [Nat.add_zero] at c0
   have c1:=hr.cell JV.len k hlt 1 (.int .i64 y.x.ent) (by rw [hy];rfl)
   have c2:=hr.cell JV.len k hlt 2 (.int .i64 y.x.date) (by rw [hy];rfl)
   have c3:=hr.cell JV.len k hlt 3 (.int .i64 y.x.kind) (by rw [hy];rfl)
   have c4:=hr.cell JV.len k hlt 4 (.int .i64 y.x.of_) (by rw [hy];rfl)
   have c5:=hr.cell JV.len k hlt 5 (.string y.x.text) (by rw [hy];rfl)
   have c6:=hr.cell JV.len k hlt 6 (.slice y.a y.x.lines.length y.c) (by rw [hy];rfl)
   have HB:=Lib.hid (find1_any y B i wr (HW.out.cell hi))
   have HY:=Lib.hid hy
   clear hr hy
   cases he:(y.x.id == i) with
   | true=>
    rw [he] at HB
    have HE:Hid (y.x.id=i):=Lib.hid (by simpa using he)
    clear he
    go_wp2_with (go_at_call 175;refine HB.out.mono ?_;rintro e w1 ⟨rfl,hk1⟩)
    go_ret
    refine ⟨k,⟨HN.out,hk,fun h=>by rw [HY.out];exact HE.out⟩,by rw [if_pos hlt];rfl,HW.out.trans hk1⟩
   | false=>
    rw [he] at HB
    have HN2:Hid (∀ e∈es.take (k+1),e.x.id≠i):=Lib.hid (by
     rw [take_snoc _ k hlt]
     intro q hq
     rcases List.mem_append.1 hq with h | h
     ·exact HN.out q h
     ·rw [List.mem_singleton] at h;rw [h,HY.out];simpa using he)
    clear he
    go_wp2_with (go_at_call 175;refine HB.out.mono ?_;rintro e w1 ⟨rfl,hk1⟩)
    go_roundw
    case rel=>exact ⟨k+1,by omega,by go_num,HN2,Lib.hid (HW.out.trans hk1)⟩
    case measure=>simp [intOf];omega
  ·obtain rfl:k=es.length:=by omega
   go_wp2_with fail
   go_ret
   exact ⟨es.length,⟨HN.out,Nat.le_refl _,fun h=>absurd h (Nat.lt_irrefl _)⟩,by rw [if_neg (Nat.lt_irrefl _)];rfl,HW.out⟩
theorem results_two {P:Program} {fn:Func} {p q s:Tmp} {ty ty2:TypeId} (h:fn.results=#[.cell p ty,.cell q ty2,.tmp s]) (tmps:Array Value) (w:World) (g g2:Nat) (cs ds:List Value) (d d2:TypeDesc)
  (hp:tmps.getD p undef=.pointer (some ⟨g,0,none⟩)) (hc:w.rangeAt g 0 cs) (hu:P.underlying ty=some d) (hd:d.isRow=true) (hi:(P.info? ty).map (·.size)=some cs.length)
  (hq:tmps.getD q undef=.pointer (some ⟨g2,0,none⟩)) (hc2:w.rangeAt g2 0 ds) (hu2:P.underlying ty2=some d2) (hd2:d2.isRow=true) (hi2:(P.info? ty2).map (·.size)=some ds.length) :
  (results fn tmps).run P w=.ok (.tuple #[.agg cs.toArray,.agg ds.toArray,tmps.getD s undef]) w:=by
 have hp':tmps[p]?.getD undef=.pointer (some ⟨g,0,none⟩):=by simpa using hp
 have hq':tmps[q]?.getD undef=.pointer (some ⟨g2,0,none⟩):=by simpa using hq
 simp [results,h,hp',hq',asAddr,run_loadVar_mid w g 0 ty cs d hc hu hd hi,run_loadVar_mid w g2 0 ty2 ds d2 hc2 hu2 hd2 hi2]
theorem enSize:(Tryz.prog.info? 56).map (·.size)=some 7:=by kernel_rfl
theorem lnSize:(Tryz.prog.info? 103).map (·.size)=some 3:=by kernel_rfl
theorem JV.one (e:JV):∀ v∈e.cells,v.oneCell'=true:=by
 intro v hv
 simp only [JV.cells,List.mem_cons,List.not_mem_nil,or_false] at hv
 rcases hv with rfl | rfl | rfl | rfl | rfl | rfl | rfl <;> rfl
theorem Ln.one (e:Ln):∀ v∈e.cells,v.oneCell'=true:=by
 intro v hv
 simp only [Ln.cells,List.mem_cons,List.not_mem_nil,or_false] at hv
 rcases hv with rfl | rfl | rfl <;> rfl
def lineAt (ls:List Ln) (l:Int):Option Ln:=if l < 0 then none else ls[l.toNat]?
theorem FstE.unique {es:List JV} {i:Int} {k m:Nat} (h:FstE es i k) (g:FstE es i m):k=m:=by
 rcases Nat.lt_trichotomy k m with hl | e | hl
 ·exfalso
  have hkl:k < es.length:=Nat.lt_of_lt_of_le hl g.2.1
  exact g.1 es[k] (by rw [List.mem_take_iff_getElem];exact ⟨k,by omega,rfl⟩) (h.2.2 hkl)
 ·exact e
 ·exfalso
  have hkl:m < es.length:=Nat.lt_of_lt_of_le hl h.2.1
  exact h.1 es[m] (by rw [List.mem_take_iff_getElem];exact ⟨m,by omega,rfl⟩) (g.2.2 hkl)
end Go.Proofs.YtoaidbhiciaeaaaGreat

end
section
namespace Go.Proofs.YtoaidbhiciaeaaaGreat
open Go.RowKit
structure RS (g1 g2 n1 n2:Nat) (C D:List Value) (w w':World):Prop where
 size:w.heap.size≤w'.heap.size
 cell:∀ p:Addr,p.block≠g1→p.block≠g2→∀ v,w.cell? p=some v→w'.cell? p=some v
 t1:w.there g1 0 n1→w'.there g1 0 n1
 t2:w.there g2 0 n2→w'.there g2 0 n2
 r1:w.rangeAt g1 0 C→w'.rangeAt g1 0 C
 r2:w.rangeAt g2 0 D→w'.rangeAt g2 0 D
 keep:∀ w0:World,w0.heap.size≤g1→w0.heap.size≤g2→Keeps w0 w→Keeps w0 w'
variable {g1 g2 n1 n2:Nat} {C D:List Value}
theorem RS.refl (w:World):RS g1 g2 n1 n2 C D w w:=⟨Nat.le_refl _,fun _ _ _ _ h=>h,id,id,id,id,fun _ _ _ h=>h⟩
theorem RS.trans {a b c:World} (h:RS g1 g2 n1 n2 C D a b) (k:RS g1 g2 n1 n2 C D b c):RS g1 g2 n1 n2 C D a c:=
 ⟨Nat.le_trans h.size k.size,fun p h1 h2 v hv=>k.cell p h1 h2 v (h.cell p h1 h2 v hv),fun x=>k.t1 (h.t1 x),fun x=>k.t2 (h.t2 x),fun x=>k.r1 (h.r1 x),fun x=>k.r2 (h.r2 x),fun w0 h1 h2 x=>k.keep w0 h1 h2 (h.keep w0 h1 h2 x)⟩
theorem isSome_set {w:World} {a b:Addr} {v:Value} (h:(w.cell? b).isSome=true):((w.setCell a v).cell? b).isSome=true:=by
 by_cases e:a=b
 ·subst e;rw [World.cell?_setCell_same' w a v h];rfl
 ·rw [World.cell?_setCell_other _ _ _ _ e];exact h
theorem isSome_sets {b:Addr} {B:Nat}:∀ (vs:List Value) (p:Nat) (w:World),(w.cell? b).isSome=true→((w.setCells B p vs).cell? b).isSome=true
 | [],_,_,h=>h
 | v :: vs,p,w,h=>isSome_sets vs (p+1) (w.setCell ⟨B,p,none⟩ v) (isSome_set h)
theorem there_set {w:World} {b o n B p:Nat} {vs:List Value} (h:w.there b o n):(w.setCells B p vs).there b o n:=fun j hj=>by
 obtain ⟨h1,h2⟩:=h j hj
 exact ⟨isSome_sets _ _ _ h1,by rw [World.frozen?_setCells];exact h2⟩
theorem size_sets {B:Nat}:∀ (vs:List Value) (p:Nat) (w:World),(w.setCells B p vs).heap.size=w.heap.size
 | [],_,_=>rfl
 | v :: vs,p,w=>by
  show ((w.setCell ⟨B,p,none⟩ v).setCells B (p+1) vs).heap.size=_
  rw [size_sets vs (p+1)];simp
theorem RS.set1 (hne:g1≠g2) {w:World} (ht:w.there g1 0 C.length):RS g1 g2 n1 n2 C D w (w.setCells g1 0 C):=
 ⟨by rw [size_sets];exact Nat.le_refl _,fun p h1 _ v hv=>by rw [World.cell?_setCells_out g1 C 0 w p (fun e=>absurd e h1)];exact hv,fun h=>there_set h,fun h=>there_set h,fun _=>World.rangeAt_setCells_same _ _ _ _ ht,fun h=>range_setCells h (fun e=>hne e.symm) _,fun w0 h1 _ h=>keeps_setCellsP h1 _ _ _ h⟩
theorem RS.set2 (hne:g1≠g2) {w:World} (ht:w.there g2 0 D.length):RS g1 g2 n1 n2 C D w (w.setCells g2 0 D):=
 ⟨by rw [size_sets];exact Nat.le_refl _,fun p _ h2 v hv=>by rw [World.cell?_setCells_out g2 D 0 w p (fun e=>absurd e h2)];exact hv,fun h=>there_set h,fun h=>there_set h,fun h=>range_setCells h hne _,fun _=>World.rangeAt_setCells_same _ _ _ _ ht,fun w0 _ h2 h=>keeps_setCellsP h2 _ _ _ h⟩
theorem RS.drew (w:World):RS g1 g2 n1 n2 C D w w.drew:=⟨Nat.le_refl _,fun _ _ _ _ h=>h,fun h=>h,fun h=>h,fun h=>h,fun h=>h,fun _ _ _ h=>h.drew⟩
end Go.Proofs.YtoaidbhiciaeaaaGreat

end
