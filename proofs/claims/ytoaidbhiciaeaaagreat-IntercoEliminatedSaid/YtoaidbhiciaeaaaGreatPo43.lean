/- Walks and plain facts that the claim rests on (RowB, BkG, BkZ). No condition. -/
import Derived.Test.YtoaidbhiciaeaaaGreatRows
import Derived.Test.YtoaidbhiciaeaaaGreatPo01
import Derived.WalkKit
import Derived.ProofKit
import Derived.OpenShut
import Derived.ShutString
import Derived.ChangeOld
import Derived.Below
import Derived.Lib.SmallJoins
import Derived.Test.YtoaidbhiciaeaaaGreatPo30
import Derived.Deep.Slices
import Derived.Deep.Fields
import Derived.ChangeSame
import Derived.SizedLaws
set_option linter.unusedSimpArgs false
set_option linter.unusedVariables false
set_option maxHeartbeats 16000000
section
namespace Go.Proofs.YtoaidbhiciaeaaaGreat
open Go.ChangeShapes Go.WideShapes Go.ChangeAt Go.RowKit
theorem own:ownKnob Tryz.prog.godebug=none:=by kernel_rfl
theorem laidOut:laidOutB Tryz.prog=true:=by kernel_rfl
end Go.Proofs.YtoaidbhiciaeaaaGreat

end
section
namespace Go.Proofs.YtoaidbhiciaeaaaGreat
open Go.ChangeShapes Go.WideShapes Go.Deep Go.Joins Go.RowKit
theorem cell_one {P:Program} {w:World} {r:Reach} {base:Nat} {u:TypeId} {v:Value} (h:Cell.okWide P w r base u v):v.oneCell'=true:=by
 cases v <;> first | rfl | (exfalso;unfold Cell.okWide Cell.ok at h;split at h <;> simp_all)
theorem exists_listB {α:Type} {n:Nat} {Q:Nat→α→Prop} (h:∀ i,i < n→∃ a,Q i a):∃ l:List α,l.length=n∧∀ i (hi:i < l.length),Q i l[i]:=by
 induction n with
 | zero=>exact ⟨[],rfl,fun i hi=>absurd hi (Nat.not_lt_zero _)⟩
 | succ n ih=>
  obtain ⟨l,hl,hq⟩:=ih fun i hi=>h i (by omega)
  obtain ⟨a,ha⟩:=h n (by omega)
  refine ⟨l ++ [a],by simp [hl],fun i hi=>?_⟩
  by_cases hin:i < l.length
  ·rw [List.getElem_append_left hin];exact hq i hin
  ·have:i=l.length:=by simp at hi;omega
   subst this
   rw [List.getElem_append_right (Nat.le_refl _)]
   simpa [hl] using ha
section
variable {H:Type} {enc:TypeId × Value→H} {P:Program} {w:World} {base:Nat} {spare:Nat→Bool} {held:Bool}
theorem open_rows {α:Type} {t e:TypeId} {fuel:Nat} {v:Value} {x:DataW H × List MemPlace} (en:α→List Value) (Q:α→Prop) (sz:Nat) (hs0:0 < sz) (he:∀ a,(en a).length=sz) (ht:P.underlying t=some (.slice e)) (hC:P.cellsOf e=sz)
  (hE:∀ fuel cs y,cs.length=sz→DataW.trod enc P w base spare held fuel e cs=some y→∃ a,en a=cs∧Q a) (h:DataW.trod enc P w base spare held fuel t [v]=some x) :
  ∃ (l:List α) (ao:Option Addr) (cap b o:Nat),v=.slice ao l.length cap∧Recs w sz en ao l cap b o∧∀ a∈l,Q a:=by
 rcases open_slice ht h with ⟨hcs,_⟩ | ⟨a,len,cap,m,n,D,Pl,hcs,_,hl,hm,hmm,_,hi⟩
 ·simp only [List.cons.injEq,and_true] at hcs
  subst hcs
  exact ⟨[],none,0,0,0,rfl,Sl.nil _ _,by simp⟩
 ·simp only [List.cons.injEq,and_true] at hcs
  subst hcs
  have hlm:len≤m:=by rw [hmm];split <;> omega
  obtain ⟨l,hln,hq⟩:=exists_listB (n:=len) (Q:=fun i (b:α)=>(∀ j u,(en b)[j]?=some u→w.cell? (a.add (i * sz+j))=some u)∧Q b) (fun i hil=>by
   obtain ⟨cs',hc,ht'⟩:=hi i (by omega)
   rw [hC] at hc
   obtain ⟨_,hcl,hat⟩:=World.cells?_some hc
   obtain ⟨b,hb,hQ⟩:=hE _ _ _ hcl ht'
   refine ⟨b,fun j u hj=>?_,hQ⟩
   have hjs:j < sz:=by have:=(List.getElem?_eq_some_iff.1 hj).1;rw [he] at this;exact this
   have:=hat j hjs
   rw [← Go.Deep.add_add,this,← hb]
   exact hj)
  have hmx:cap≤9223372036854775807:=by unfold maxLen at hm;exact hm
  have hmem:∀ b∈l,Q b:=fun b hb=>by
   obtain ⟨i,hi',rfl⟩:=List.getElem_of_mem hb
   exact (hq i hi').2
  have hget:∀ (M:List α),∀ q u,(M.flatMap en)[q]?=some u→∃ i j,∃ (hi:i < M.length),q=i * sz+j∧(en M[i])[j]?=some u:=by
   intro M
   induction M with
   | nil=>intro q u hu;simp at hu
   | cons r M ih=>
    intro q u hu
    rw [List.flatMap_cons] at hu
    by_cases hqr:q < sz
    ·rw [List.getElem?_append_left (by rw [he];exact hqr)] at hu
     exact ⟨0,q,by simp,by simp,hu⟩
    ·rw [List.getElem?_append_right (by rw [he];omega),he] at hu
     obtain ⟨i,j,hi',e1,e2⟩:=ih _ _ hu
     refine ⟨i+1,j,by simpa using hi',?_,by simpa using e2⟩
     rw [Nat.add_mul];omega
  obtain ⟨⟨ab,ao,an⟩,ha⟩:∃ ad:Addr,a=ad:=⟨a,rfl⟩
  subst ha
  rcases Nat.eq_zero_or_pos len with h0 | h0
  ·have hle:l=[]:=List.eq_nil_of_length_eq_zero (by omega)
   subst hle h0
   refine ⟨[],_,cap,ab,ao,rfl,⟨by simp,by simp,(fun h=>by cases h),hmx,fun hpos=>absurd hpos (Nat.lt_irrefl _),fun q u hu=>by simp at hu⟩,by simp⟩
  ·have hz:=he l[0]
   have hc00:=(hq 0 (by omega)).1 0 _ (List.getElem?_eq_getElem (by omega))
   have han:an=none:=by simpa [Addr.add] using World.cell?_spot hc00
   subst han
   refine ⟨l,_,cap,ab,ao,by rw [hln],⟨flat_length he l,by omega,(fun h=>by cases h),hmx,fun _=>rfl,fun q u hu=>?_⟩,hmem⟩
   obtain ⟨i,j,hi',rfl,hu2⟩:=hget l q u hu
   have:=(hq i hi').1 j u hu2
   rw [Addr.add_lit] at this
   exact this
end
section
variable {H:Type} {enc:TypeId × Value→H} {w:World} {base:Nat} {spare:Nat→Bool} {held:Bool}
theorem cInt:Tryz.prog.cellsOf 3=1:=by kernel_rfl
theorem cStr:Tryz.prog.cellsOf 9=1:=by kernel_rfl
theorem cLns:Tryz.prog.cellsOf 54=1:=by kernel_rfl
theorem cRfs:Tryz.prog.cellsOf 46=1:=by kernel_rfl
theorem cEns:Tryz.prog.cellsOf 30=1:=by kernel_rfl
theorem cMts:Tryz.prog.cellsOf 33=1:=by kernel_rfl
theorem cRf:Tryz.prog.cellsOf 51=2:=by kernel_rfl
theorem cLn:Tryz.prog.cellsOf 103=3:=by kernel_rfl
theorem cEn:Tryz.prog.cellsOf 56=7:=by kernel_rfl
theorem cMt:Tryz.prog.cellsOf 48=4:=by kernel_rfl
theorem cBk:Tryz.prog.cellsOf 36=27:=by kernel_rfl
theorem cGr:Tryz.prog.cellsOf 29=21:=by kernel_rfl
theorem open_i {n:Nat} {v:Value} {y:DataW H × List MemPlace} (h:DataW.trod enc Tryz.prog w base spare held n 3 [v]=some y):∃ z,v=.int .i64 z∧I64 z:=by
 obtain ⟨z,e,_,wf⟩:=DataW.trod_int Tryz.underlying3 h
 simp only [List.cons.injEq,and_true] at e
 exact ⟨z,e,wf64.1 wf⟩
theorem open_rf {fuel:Nat} {cs:List Value} {y:DataW H × List MemPlace} (hl:cs.length=2) (h:DataW.trod enc Tryz.prog w base spare held fuel 51 cs=some y):∃ a:Rf,a.cells=cs∧a.Ok:=by
 match cs,hl with
 | [v0,v1],_=>
  obtain ⟨xs,n,_,_,_,hlen,hg⟩:=DataW.trod_struct Tryz.underlying51 h
  match xs,hlen with
  | [y0,y1],_=>
   obtain ⟨z0,rfl,w0⟩:=open_i (show DataW.trod enc Tryz.prog w base spare held n 3 [v0]=some y0 by simpa [cInt] using hg 0 _ rfl)
   obtain ⟨z1,rfl,w1⟩:=open_i (show DataW.trod enc Tryz.prog w base spare held n 3 [v1]=some y1 by simpa [cInt] using hg 1 _ rfl)
   exact ⟨⟨z0,z1⟩,rfl,w0,w1⟩
theorem open_ln {fuel:Nat} {cs:List Value} {y:DataW H × List MemPlace} (hl:cs.length=3) (h:DataW.trod enc Tryz.prog w base spare held fuel 103 cs=some y):∃ a:Ln,a.cells=cs∧a.Ok:=by
 match cs,hl with
 | [v0,v1,v2],_=>
  obtain ⟨xs,n,_,_,_,hlen,hg⟩:=DataW.trod_struct Tryz.underlying103 h
  match xs,hlen with
  | [y0,y1,y2],_=>
   obtain ⟨z0,rfl,w0⟩:=open_i (show DataW.trod enc Tryz.prog w base spare held n 3 [v0]=some y0 by simpa [cInt] using hg 0 _ rfl)
   obtain ⟨z1,rfl,w1⟩:=open_i (show DataW.trod enc Tryz.prog w base spare held n 3 [v1]=some y1 by simpa [cInt] using hg 1 _ rfl)
   obtain ⟨z2,rfl,w2⟩:=open_i (show DataW.trod enc Tryz.prog w base spare held n 3 [v2]=some y2 by simpa [cInt] using hg 2 _ rfl)
   exact ⟨⟨z0,z1,z2⟩,rfl,w0,w1,w2⟩
def JV.In (w:World) (e:JV):Prop:=Recs w 3 Ln.cells e.a e.x.lines e.c e.b e.o∧e.x.Ok
theorem open_jv {fuel:Nat} {cs:List Value} {y:DataW H × List MemPlace} (hl:cs.length=7) (h:DataW.trod enc Tryz.prog w base spare held fuel 56 cs=some y):∃ a:JV,a.cells=cs∧a.In w:=by
 match cs,hl with
 | [v0,v1,v2,v3,v4,v5,v6],_=>
  obtain ⟨xs,n,_,_,_,hlen,hg⟩:=DataW.trod_struct Tryz.underlying56 h
  match xs,hlen with
  | [y0,y1,y2,y3,y4,y5,y6],_=>
   obtain ⟨z0,rfl,w0⟩:=open_i (show DataW.trod enc Tryz.prog w base spare held n 3 [v0]=some y0 by simpa [cInt] using hg 0 _ rfl)
   obtain ⟨z1,rfl,w1⟩:=open_i (show DataW.trod enc Tryz.prog w base spare held n 3 [v1]=some y1 by simpa [cInt] using hg 1 _ rfl)
   obtain ⟨z2,rfl,w2⟩:=open_i (show DataW.trod enc Tryz.prog w base spare held n 3 [v2]=some y2 by simpa [cInt] using hg 2 _ rfl)
   obtain ⟨z3,rfl,w3⟩:=open_i (show DataW.trod enc Tryz.prog w base spare held n 3 [v3]=some y3 by simpa [cInt] using hg 3 _ rfl)
   obtain ⟨z4,rfl,w4⟩:=open_i (show DataW.trod enc Tryz.prog w base spare held n 3 [v4]=some y4 by simpa [cInt] using hg 4 _ rfl)
   obtain ⟨s5,e5,_⟩:=DataW.trod_string Tryz.underlying9 (show DataW.trod enc Tryz.prog w base spare held n 9 [v5]=some y5 by simpa [cStr] using hg 5 _ rfl)
   simp only [List.cons.injEq,and_true] at e5
   subst e5
   obtain ⟨l,ao,cap,b,o,rfl,hr,hok⟩:=open_rows Ln.cells Ln.Ok 3 (by omega) Ln.len Tryz.underlying54 cLn (fun _ _ _ h1 h2=>open_ln h1 h2) (show DataW.trod enc Tryz.prog w base spare held n 54 [v6]=some y6 by simpa [cLns] using hg 6 _ rfl)
   exact ⟨⟨⟨z0,z1,z2,z3,z4,s5,l⟩,ao,cap,b,o⟩,rfl,hr,w0,w1,w2,w3,w4,hok⟩
def MV.In (w:World) (m:MV):Prop:=Recs w 2 Rf.cells m.al m.x.left m.cl m.bl m.ol∧Recs w 2 Rf.cells m.ar m.x.right m.cr m.br m.or_∧m.x.Ok∧I64 m.x.id
theorem open_mv {fuel:Nat} {cs:List Value} {y:DataW H × List MemPlace} (hl:cs.length=4) (h:DataW.trod enc Tryz.prog w base spare held fuel 48 cs=some y):∃ a:MV,a.cells=cs∧a.In w:=by
 match cs,hl with
 | [v0,v1,v2,v3],_=>
  obtain ⟨xs,n,_,_,_,hlen,hg⟩:=DataW.trod_struct Tryz.underlying48 h
  match xs,hlen with
  | [y0,y1,y2,y3],_=>
   obtain ⟨z0,rfl,w0⟩:=open_i (show DataW.trod enc Tryz.prog w base spare held n 3 [v0]=some y0 by simpa [cInt] using hg 0 _ rfl)
   obtain ⟨l1,ao1,cap1,b1,o1,rfl,hr1,hok1⟩:=open_rows Rf.cells Rf.Ok 2 (by omega) Rf.len Tryz.underlying46 cRf (fun _ _ _ h1 h2=>open_rf h1 h2) (show DataW.trod enc Tryz.prog w base spare held n 46 [v1]=some y1 by simpa [cRfs] using hg 1 _ rfl)
   obtain ⟨l2,ao2,cap2,b2,o2,rfl,hr2,hok2⟩:=open_rows Rf.cells Rf.Ok 2 (by omega) Rf.len Tryz.underlying46 cRf (fun _ _ _ h1 h2=>open_rf h1 h2) (show DataW.trod enc Tryz.prog w base spare held n 46 [v2]=some y2 by simpa [cRfs] using hg 2 _ rfl)
   obtain ⟨z3,rfl,w3⟩:=open_i (show DataW.trod enc Tryz.prog w base spare held n 3 [v3]=some y3 by simpa [cInt] using hg 3 _ rfl)
   exact ⟨⟨⟨z0,l1,l2,z3⟩,ao1,cap1,b1,o1,ao2,cap2,b2,o2⟩,rfl,hr1,hr2,⟨hok1,hok2⟩,w0⟩
def Acc.OkX (a:Acc):Prop:=I64 a.code∧I64 a.kind∧I64 a.basis∧I64 a.parent
theorem cAc:Tryz.prog.cellsOf 68=4:=by kernel_rfl
theorem cLk:Tryz.prog.cellsOf 162=3:=by kernel_rfl
theorem cHo:Tryz.prog.cellsOf 101=4:=by kernel_rfl
theorem cEt:Tryz.prog.cellsOf 106=5:=by kernel_rfl
theorem cIt:Tryz.prog.cellsOf 53=7:=by kernel_rfl
theorem cAcs:Tryz.prog.cellsOf 24=1:=by kernel_rfl
theorem cLks:Tryz.prog.cellsOf 104=1:=by kernel_rfl
theorem cHos:Tryz.prog.cellsOf 32=1:=by kernel_rfl
theorem cEts:Tryz.prog.cellsOf 27=1:=by kernel_rfl
theorem cBo:Tryz.prog.cellsOf 4=1:=by kernel_rfl
theorem cCa:Tryz.prog.cellsOf 23=3:=by kernel_rfl
theorem cRo:Tryz.prog.cellsOf 26=15:=by kernel_rfl
theorem open_ac {fuel:Nat} {cs:List Value} {y:DataW H × List MemPlace} (hl:cs.length=4) (h:DataW.trod enc Tryz.prog w base spare held fuel 68 cs=some y):∃ a:Acc,a.cells=cs∧a.OkX:=by
 match cs,hl with
 | [v0,v1,v2,v3],_=>
  obtain ⟨xs,n,_,_,_,hlen,hg⟩:=DataW.trod_struct Tryz.underlying68 h
  match xs,hlen with
  | [y0,y1,y2,y3],_=>
   obtain ⟨z0,rfl,w0⟩:=open_i (show DataW.trod enc Tryz.prog w base spare held n 3 [v0]=some y0 by simpa [cInt] using hg 0 _ rfl)
   obtain ⟨z1,rfl,w1⟩:=open_i (show DataW.trod enc Tryz.prog w base spare held n 3 [v1]=some y1 by simpa [cInt] using hg 1 _ rfl)
   obtain ⟨z2,rfl,w2⟩:=open_i (show DataW.trod enc Tryz.prog w base spare held n 3 [v2]=some y2 by simpa [cInt] using hg 2 _ rfl)
   obtain ⟨z3,rfl,w3⟩:=open_i (show DataW.trod enc Tryz.prog w base spare held n 3 [v3]=some y3 by simpa [cInt] using hg 3 _ rfl)
   exact ⟨⟨z0,z1,z2,z3⟩,rfl,w0,w1,w2,w3⟩
theorem open_lk {fuel:Nat} {cs:List Value} {y:DataW H × List MemPlace} (hl:cs.length=3) (h:DataW.trod enc Tryz.prog w base spare held fuel 162 cs=some y):∃ a:Lnk,a.cells=cs∧a.OkL:=by
 match cs,hl with
 | [v0,v1,v2],_=>
  obtain ⟨xs,n,_,_,_,hlen,hg⟩:=DataW.trod_struct Tryz.underlying162 h
  match xs,hlen with
  | [y0,y1,y2],_=>
   obtain ⟨z0,rfl,w0⟩:=open_i (show DataW.trod enc Tryz.prog w base spare held n 3 [v0]=some y0 by simpa [cInt] using hg 0 _ rfl)
   obtain ⟨z1,rfl,w1⟩:=open_i (show DataW.trod enc Tryz.prog w base spare held n 3 [v1]=some y1 by simpa [cInt] using hg 1 _ rfl)
   obtain ⟨z2,rfl,w2⟩:=open_i (show DataW.trod enc Tryz.prog w base spare held n 3 [v2]=some y2 by simpa [cInt] using hg 2 _ rfl)
   exact ⟨⟨z0,z1,z2⟩,rfl,w0,w1,w2⟩
theorem open_ho {fuel:Nat} {cs:List Value} {y:DataW H × List MemPlace} (hl:cs.length=4) (h:DataW.trod enc Tryz.prog w base spare held fuel 101 cs=some y):∃ a:Hol,a.cells=cs∧a.Ok:=by
 match cs,hl with
 | [v0,v1,v2,v3],_=>
  obtain ⟨xs,n,_,_,_,hlen,hg⟩:=DataW.trod_struct Tryz.underlying101 h
  match xs,hlen with
  | [y0,y1,y2,y3],_=>
   obtain ⟨z0,rfl,w0⟩:=open_i (show DataW.trod enc Tryz.prog w base spare held n 3 [v0]=some y0 by simpa [cInt] using hg 0 _ rfl)
   obtain ⟨z1,rfl,w1⟩:=open_i (show DataW.trod enc Tryz.prog w base spare held n 3 [v1]=some y1 by simpa [cInt] using hg 1 _ rfl)
   obtain ⟨z2,rfl,w2⟩:=open_i (show DataW.trod enc Tryz.prog w base spare held n 3 [v2]=some y2 by simpa [cInt] using hg 2 _ rfl)
   obtain ⟨z3,rfl,w3⟩:=open_i (show DataW.trod enc Tryz.prog w base spare held n 3 [v3]=some y3 by simpa [cInt] using hg 3 _ rfl)
   exact ⟨⟨z0,z1,z2,z3⟩,rfl,w0,w1,w2,w3⟩
def Itm.OkI (x:Itm):Prop:=x.ref.Ok∧I64 x.acc
theorem open_it {fuel:Nat} {cs:List Value} {y:DataW H × List MemPlace} (hl:cs.length=7) (h:DataW.trod enc Tryz.prog w base spare held fuel 53 cs=some y):∃ a:Itm,a.cells=cs∧a.OkI:=by
 match cs,hl with
 | [v0,v1,v2,v3,v4,v5,v6],_=>
  obtain ⟨xs,n,_,_,_,hlen,hg⟩:=DataW.trod_struct Tryz.underlying53 h
  match xs,hlen with
  | [y0,y2,y3,y4,y5,y6],_=>
   obtain ⟨r,hr,hro⟩:=open_rf rfl (show DataW.trod enc Tryz.prog w base spare held n 51 [v0,v1]=some y0 by simpa [cRf] using hg 0 _ rfl)
   obtain ⟨z2,rfl,w2⟩:=open_i (show DataW.trod enc Tryz.prog w base spare held n 3 [v2]=some y2 by simpa [cInt] using hg 1 _ rfl)
   obtain ⟨z3,rfl,w3⟩:=open_i (show DataW.trod enc Tryz.prog w base spare held n 3 [v3]=some y3 by simpa [cInt] using hg 2 _ rfl)
   obtain ⟨z4,rfl,w4⟩:=open_i (show DataW.trod enc Tryz.prog w base spare held n 3 [v4]=some y4 by simpa [cInt] using hg 3 _ rfl)
   obtain ⟨z5,rfl,w5⟩:=open_i (show DataW.trod enc Tryz.prog w base spare held n 3 [v5]=some y5 by simpa [cInt] using hg 4 _ rfl)
   obtain ⟨z6,rfl,w6⟩:=open_i (show DataW.trod enc Tryz.prog w base spare held n 3 [v6]=some y6 by simpa [cInt] using hg 5 _ rfl)
   simp only [Rf.cells,List.cons.injEq,and_true] at hr
   obtain ⟨rfl,rfl⟩:=hr
   exact ⟨⟨r,z2,z3,z4,z5,z6⟩,rfl,hro,w3⟩
structure EE where
 x:Ent
 c:Value
 l:Value
def EE.cells (e:EE):List Value:=[.string e.x.name,.string e.x.cur,e.c,e.l,.bool e.x.joint]
theorem EE.len (e:EE):e.cells.length=5:=rfl
def Ent.OkE (e:Ent):Prop:=e.name.size≤maxLen∧e.cur.size≤maxLen∧(∀ x∈e.chart,x.OkA)∧∀ x∈e.links,x.OkL
def EE.In (w:World) (e:EE):Prop:=AccL w e.c e.x.chart∧LnkL w e.l e.x.links∧e.x.OkE
theorem open_ee {fuel:Nat} {cs:List Value} {y:DataW H × List MemPlace} (hl:cs.length=5) (h:DataW.trod enc Tryz.prog w base spare held fuel 106 cs=some y):∃ a:EE,a.cells=cs∧a.In w:=by
 match cs,hl with
 | [v0,v1,v2,v3,v4],_=>
  obtain ⟨xs,n,_,_,_,hlen,hg⟩:=DataW.trod_struct Tryz.underlying106 h
  match xs,hlen with
  | [y0,y1,y2,y3,y4],_=>
   obtain ⟨s0,e0,k0⟩:=DataW.trod_string Tryz.underlying9 (show DataW.trod enc Tryz.prog w base spare held n 9 [v0]=some y0 by simpa [cStr] using hg 0 _ rfl)
   obtain ⟨s1,e1,k1⟩:=DataW.trod_string Tryz.underlying9 (show DataW.trod enc Tryz.prog w base spare held n 9 [v1]=some y1 by simpa [cStr] using hg 1 _ rfl)
   obtain ⟨bj,e4,_⟩:=DataW.trod_bool Tryz.underlying4 (show DataW.trod enc Tryz.prog w base spare held n 4 [v4]=some y4 by simpa [cBo] using hg 4 _ rfl)
   obtain ⟨l1,ao1,cap1,b1,o1,e2,hr1,hok1⟩:=open_rows Acc.cells Acc.OkX 4 (by omega) (fun _=>rfl) Tryz.underlying24 cAc (fun _ _ _ h1 h2=>open_ac h1 h2) (show DataW.trod enc Tryz.prog w base spare held n 24 [v2]=some y2 by simpa [cAcs] using hg 2 _ rfl)
   obtain ⟨l2,ao2,cap2,b2,o2,e3,hr2,hok2⟩:=open_rows Lnk.cells Lnk.OkL 3 (by omega) (fun _=>rfl) Tryz.underlying104 cLk (fun _ _ _ h1 h2=>open_lk h1 h2) (show DataW.trod enc Tryz.prog w base spare held n 104 [v3]=some y3 by simpa [cLks] using hg 3 _ rfl)
   simp only [List.cons.injEq,and_true] at e0 e1 e4
   subst e0 e1 e2 e3 e4
   exact ⟨⟨⟨s0,s1,l1,l2,bj⟩,_,_⟩,rfl,⟨ao1,cap1,b1,o1,rfl,hr1⟩,⟨ao2,cap2,b2,o2,rfl,hr2⟩,k0.2,k1.2,fun x hx=>⟨(hok1 x hx).1,(hok1 x hx).2.2.2⟩,hok2⟩
theorem ents_of {ao:Option Addr} {cap b o:Nat} {l:List EE} (h:Recs w 5 EE.cells ao l cap b o) (hi:∀ e∈l,e.In w):EntsV w ao (l.map EE.x) cap b o:=by
 refine ⟨l.flatMap EE.cells,?_,fun k hk=>?_⟩
 ·rw [List.length_map];exact h
 ·have hk2:k < l.length:=by simpa using hk
  have hm:=hi l[k] (List.getElem_mem ..)
  refine ⟨l[k].c,l[k].l,fun j u hu=>?_,by rw [List.getElem_map];exact hm.1,by rw [List.getElem_map];exact hm.2.1⟩
  have hj:j < 5:=(List.getElem?_eq_some_iff.1 hu).1
  rw [flat_get EE.len l k j hk2 hj]
  rw [List.getElem_map] at hu
  exact hu
def Grp.OkG (g:Grp):Prop:=g.cur.size≤maxLen∧(∀ x∈g.chart,x.OkA)∧g.rl.Ok∧∀ e∈g.ents,e.OkE
set_option maxRecDepth 100000 in
theorem open_grp {fuel:Nat} {v0 v1 v2 v3 v4 v5 v6 v7 v8 v9 v10 v11 v12 v13 v14 v15 v16 v17 v18 v19 v20:Value} {y:DataW H × List MemPlace}
  (h:DataW.trod enc Tryz.prog w base spare held fuel 29 [v0,v1,v2,v3,v4,v5,v6,v7,v8,v9,v10,v11,v12,v13,v14,v15,v16,v17,v18,v19,v20]=some y) :
  ∃ (g:Grp) (aoC:Option Addr) (capC bC oC:Nat) (aoE:Option Addr) (capE bE oE:Nat),[v0,v1,v2,v3,v4,v5,v6,v7,v8,v9,v10,v11,v12,v13,v14,v15,v16,v17,v18,v19,v20]=g.cells (.slice aoC g.chart.length capC) (.slice aoE g.ents.length capE)∧Accs w aoC g.chart capC bC oC∧EntsV w aoE g.ents capE bE oE∧g.OkG:=by
 obtain ⟨xs,n,_,_,_,hlen,hg⟩:=DataW.trod_struct Tryz.underlying29 h
 match xs,hlen with
 | [y0,y1,y2,y3,y4],_=>
  obtain ⟨s0,e0,k0⟩:=DataW.trod_string Tryz.underlying9 (show DataW.trod enc Tryz.prog w base spare held n 9 [v0]=some y0 by simpa [cStr] using hg 0 _ rfl)
  have g1:DataW.trod enc Tryz.prog w base spare held n 23 [v1,v2,v3]=some y1:=by simpa [cCa] using hg 1 _ rfl
  have g3:DataW.trod enc Tryz.prog w base spare held n 26 [v5,v6,v7,v8,v9,v10,v11,v12,v13,v14,v15,v16,v17,v18,v19]=some y3:=by simpa [cRo] using hg 3 _ rfl
  obtain ⟨l1,ao1,cap1,b1,o1,e4,hr1,hok1⟩:=open_rows Acc.cells Acc.OkX 4 (by omega) (fun _=>rfl) Tryz.underlying24 cAc (fun _ _ _ h1 h2=>open_ac h1 h2) (show DataW.trod enc Tryz.prog w base spare held n 24 [v4]=some y2 by simpa [cAcs] using hg 2 _ rfl)
  obtain ⟨l2,ao2,cap2,b2,o2,e20,hr2,hok2⟩:=open_rows EE.cells (EE.In w) 5 (by omega) EE.len Tryz.underlying27 cEt (fun _ _ _ h1 h2=>open_ee h1 h2) (show DataW.trod enc Tryz.prog w base spare held n 27 [v20]=some y4 by simpa [cEts] using hg 4 _ rfl)
  simp only [List.cons.injEq,and_true] at e0
  obtain ⟨xs1,n1,_,_,_,hl1,hg1⟩:=DataW.trod_struct Tryz.underlying23 g1
  obtain ⟨xs3,n3,_,_,_,hl3,hg3⟩:=DataW.trod_struct Tryz.underlying26 g3
  match xs1,hl1,xs3,hl3 with
  | [c0,c1,c2],_,[q0,q1,q2,q3,q4,q5,q6,q7,q8,q9,q10,q11,q12,q13,q14],_=>
   obtain ⟨z1,rfl,_⟩:=open_i (show DataW.trod enc Tryz.prog w base spare held n1 3 [v1]=some c0 by simpa [cInt] using hg1 0 _ rfl)
   obtain ⟨z2,rfl,_⟩:=open_i (show DataW.trod enc Tryz.prog w base spare held n1 3 [v2]=some c1 by simpa [cInt] using hg1 1 _ rfl)
   obtain ⟨z3,rfl,_⟩:=open_i (show DataW.trod enc Tryz.prog w base spare held n1 3 [v3]=some c2 by simpa [cInt] using hg1 2 _ rfl)
   obtain ⟨r0,rfl,wr0⟩:=open_i (show DataW.trod enc Tryz.prog w base spare held n3 3 [v5]=some q0 by simpa [cInt] using hg3 0 _ rfl)
   obtain ⟨r1,rfl,wr1⟩:=open_i (show DataW.trod enc Tryz.prog w base spare held n3 3 [v6]=some q1 by simpa [cInt] using hg3 1 _ rfl)
   obtain ⟨r2,rfl,wr2⟩:=open_i (show DataW.trod enc Tryz.prog w base spare held n3 3 [v7]=some q2 by simpa [cInt] using hg3 2 _ rfl)
   obtain ⟨r3,rfl,wr3⟩:=open_i (show DataW.trod enc Tryz.prog w base spare held n3 3 [v8]=some q3 by simpa [cInt] using hg3 3 _ rfl)
   obtain ⟨r4,rfl,wr4⟩:=open_i (show DataW.trod enc Tryz.prog w base spare held n3 3 [v9]=some q4 by simpa [cInt] using hg3 4 _ rfl)
   obtain ⟨r5,rfl,wr5⟩:=open_i (show DataW.trod enc Tryz.prog w base spare held n3 3 [v10]=some q5 by simpa [cInt] using hg3 5 _ rfl)
   obtain ⟨r6,rfl,wr6⟩:=open_i (show DataW.trod enc Tryz.prog w base spare held n3 3 [v11]=some q6 by simpa [cInt] using hg3 6 _ rfl)
   obtain ⟨r7,rfl,wr7⟩:=open_i (show DataW.trod enc Tryz.prog w base spare held n3 3 [v12]=some q7 by simpa [cInt] using hg3 7 _ rfl)
   obtain ⟨r8,rfl,wr8⟩:=open_i (show DataW.trod enc Tryz.prog w base spare held n3 3 [v13]=some q8 by simpa [cInt] using hg3 8 _ rfl)
   obtain ⟨r9,rfl,wr9⟩:=open_i (show DataW.trod enc Tryz.prog w base spare held n3 3 [v14]=some q9 by simpa [cInt] using hg3 9 _ rfl)
   obtain ⟨r10,rfl,wr10⟩:=open_i (show DataW.trod enc Tryz.prog w base spare held n3 3 [v15]=some q10 by simpa [cInt] using hg3 10 _ rfl)
   obtain ⟨r11,rfl,wr11⟩:=open_i (show DataW.trod enc Tryz.prog w base spare held n3 3 [v16]=some q11 by simpa [cInt] using hg3 11 _ rfl)
   obtain ⟨r12,rfl,wr12⟩:=open_i (show DataW.trod enc Tryz.prog w base spare held n3 3 [v17]=some q12 by simpa [cInt] using hg3 12 _ rfl)
   obtain ⟨r13,rfl,wr13⟩:=open_i (show DataW.trod enc Tryz.prog w base spare held n3 3 [v18]=some q13 by simpa [cInt] using hg3 13 _ rfl)
   obtain ⟨r14,rfl,wr14⟩:=open_i (show DataW.trod enc Tryz.prog w base spare held n3 3 [v19]=some q14 by simpa [cInt] using hg3 14 _ rfl)
   subst e0 e4 e20
   refine ⟨⟨s0,z1,z2,z3,l1,⟨r0,r1,r2,r3,r4,r5,r6,r7,r8,r9,r10,r11,r12,r13,r14⟩,l2.map EE.x⟩,ao1,cap1,b1,o1,ao2,cap2,b2,o2,by rw [List.length_map];rfl,hr1,ents_of hr2 hok2,k0.2,fun x hx=>⟨(hok1 x hx).1,(hok1 x hx).2.2.2⟩,fun q hq=>?_,fun e he=>?_⟩
   ·simp only [rolesL,List.mem_cons,List.not_mem_nil,or_false] at hq
    rcases hq with rfl | rfl | rfl | rfl | rfl | rfl | rfl | rfl | rfl | rfl | rfl | rfl | rfl | rfl | rfl <;> assumption
   ·obtain ⟨e',he',rfl⟩:=List.mem_map.1 he
    exact (hok2 e' he').2.2
set_option maxRecDepth 100000 in
theorem open_bkg {r:Reach} {b0:Nat} {v:Value} {d:DataW H} {p:List MemPlace} (hv:Value.okWide Tryz.prog w r b0 36 v) (h:DataW.Trod enc Tryz.prog w base spare held 36 v d p) :
  ∃ bv g es hs ms,v=.agg bv.toArray∧BkG w bv g es hs ms∧g.OkG∧(∀ x∈hs,x.Ok)∧∀ m∈ms,I64 m.x.id:=by
 simp only [Value.okWide,Tryz.underlying36] at hv
 obtain ⟨⟨bv⟩,rfl,hsz,ts,_,_,hone⟩:=hv
 have hlen:bv.length=27:=hsz.trans cBk
 obtain ⟨fuel,hf⟩:=h
 obtain ⟨xs,n,_,_,_,hl,hg⟩:=DataW.trod_struct Tryz.underlying36 hf
 have hone2:∀ u∈bv,u.oneCell'=true:=fun u hu=>by
  obtain ⟨i,hi,rfl⟩:=List.getElem_of_mem hu
  obtain ⟨u,_,hc⟩:=hone i bv[i] (by rw [show (⟨bv⟩:Array Value)=bv.toArray from rfl,List.getElem?_toArray];exact List.getElem?_eq_getElem hi)
  exact cell_one hc
 match xs,hl with
 | [y0,y1,y2,y3,y4,y5,y6],_=>
  have g0:DataW.trod enc Tryz.prog w base spare held n 29 ((bv.drop 0).take (Tryz.prog.cellsOf 29))=some y0:=hg 0 _ rfl
  have g1:DataW.trod enc Tryz.prog w base spare held n 30 ((bv.drop 21).take (Tryz.prog.cellsOf 30))=some y1:=hg 1 _ rfl
  have g3:DataW.trod enc Tryz.prog w base spare held n 32 ((bv.drop 23).take (Tryz.prog.cellsOf 32))=some y3:=hg 3 _ rfl
  have g4:DataW.trod enc Tryz.prog w base spare held n 33 ((bv.drop 24).take (Tryz.prog.cellsOf 33))=some y4:=hg 4 _ rfl
  rw [cGr] at g0
  rw [cEns] at g1
  rw [cHos] at g3
  rw [cMts] at g4
  clear hg hf hone
  obtain ⟨b0,b1,b2,b3,b4,b5,b6,b7,b8,b9,b10,b11,b12,b13,b14,b15,b16,b17,b18,b19,b20,b21,b22,b23,b24,b25,b26,rfl⟩:=list27 hlen
  have h0:DataW.trod enc Tryz.prog w base spare held n 29 [b0,b1,b2,b3,b4,b5,b6,b7,b8,b9,b10,b11,b12,b13,b14,b15,b16,b17,b18,b19,b20]=some y0:=g0
  have h1:DataW.trod enc Tryz.prog w base spare held n 30 [b21]=some y1:=g1
  have h3:DataW.trod enc Tryz.prog w base spare held n 32 [b23]=some y3:=g3
  have h4:DataW.trod enc Tryz.prog w base spare held n 33 [b24]=some y4:=g4
  obtain ⟨g,aoC,capC,bC,oC,aoE,capE,bE,oE,hgc,hC,hE,hgo⟩:=open_grp h0
  obtain ⟨es,ao1,cap1,b1',o1,e1,hr1,hq1⟩:=open_rows JV.cells (JV.In w) 7 (by omega) JV.len Tryz.underlying30 cEn (fun _ _ _ h1 h2=>open_jv h1 h2) h1
  obtain ⟨hs,ao3,cap3,b3',o3,e3,hr3,hq3⟩:=open_rows Hol.cells Hol.Ok 4 (by omega) Hol.len Tryz.underlying32 cHo (fun _ _ _ h1 h2=>open_ho h1 h2) h3
  obtain ⟨ms,ao4,cap4,b4',o4,e4,hr4,hq4⟩:=open_rows MV.cells (MV.In w) 4 (by omega) MV.len Tryz.underlying33 cMt (fun _ _ _ h1 h2=>open_mv h1 h2) h4
  subst e1 e3 e4
  refine ⟨_,g,es,hs,ms,rfl,⟨⟨rfl,hone2,⟨ao1,cap1,b1',o1,rfl,hr1,fun e he=>(hq1 e he).1⟩,⟨ao4,cap4,b4',o4,rfl,hr4,fun e he=>(hq4 e he).1,fun e he=>(hq4 e he).2.1⟩,fun e he=>(hq1 e he).2,fun e he=>(hq4 e he).2.2.1⟩,⟨aoC,capC,bC,oC,aoE,capE,bE,oE,fun j v hv=>?_,hC,hE⟩,⟨ao3,cap3,b3',o3,rfl,hr3⟩⟩,hgo,hq3,fun e he=>(hq4 e he).2.2.2⟩
  rw [← hgc] at hv
  have hj:j < 21:=(List.getElem?_eq_some_iff.1 hv).1
  rw [show [b0,b1,b2,b3,b4,b5,b6,b7,b8,b9,b10,b11,b12,b13,b14,b15,b16,b17,b18,b19,b20,_,b22,_,_,b25,b26]=[b0,b1,b2,b3,b4,b5,b6,b7,b8,b9,b10,b11,b12,b13,b14,b15,b16,b17,b18,b19,b20] ++ [_,b22,_,_,b25,b26] from rfl,List.getElem?_append_left (by simpa using hj)]
  exact hv
set_option maxRecDepth 100000 in
theorem open_items {r:Reach} {b0:Nat} {v:Value} {d:DataW H} {p:List MemPlace} (hv:Value.okWide Tryz.prog w r b0 37 v) (h:DataW.Trod enc Tryz.prog w base spare held 37 v d p) :
  ∃ (items:List Itm) (ao:Option Addr) (cap b o:Nat),v=.slice ao items.length cap∧Recs w 7 Itm.cells ao items cap b o∧∀ x∈items,x.OkI:=by
 obtain ⟨a,len,cap,rfl⟩:=okWide_slice Tryz.underlying37 hv
 obtain ⟨fuel,hf⟩:=h
 have hf':DataW.trod enc Tryz.prog w base spare held fuel 37 [.slice a len cap]=some (d,p):=hf
 obtain ⟨items,ao,cap',b,o,e,hr,hq⟩:=open_rows Itm.cells Itm.OkI 7 (by omega) Itm.len Tryz.underlying37 cIt (fun _ _ _ h1 h2=>open_it h1 h2) hf'
 exact ⟨items,ao,cap',b,o,e,hr,hq⟩
end
end Go.Proofs.YtoaidbhiciaeaaaGreat

end
section
namespace Go.Proofs.YtoaidbhiciaeaaaGreat
open Go.ChangeShapes Go.WideShapes Go.Deep Go.Joins Go.RowKit
section
variable {H:Type} {enc:TypeId × Value→H} {w:World} {base:Nat} {spare:Nat→Bool} {held:Bool}
theorem bytesRef:Tryz.prog.bytesOf 51=16:=by kernel_rfl
theorem sized_refs {fuel:Nat} {ao:Option Addr} {n cap:Nat} {y:DataW H × List MemPlace} (h:DataW.trod enc Tryz.prog w base spare held fuel 46 [.slice ao n cap]=some y) (hs:∀ k∈y.1.weights Tryz.prog 46,k≤reachBytes):n * 16≤reachBytes:=by
 rcases open_slice Tryz.underlying46 h with ⟨hcs,_⟩ | ⟨a,len,cp,m,k,D,Pl,hcs,_,hl,hm,hmm,hx,hi⟩
 ·simp only [List.cons.injEq,and_true,Value.slice.injEq] at hcs
  rw [hcs.2.1];simp
 ·simp only [List.cons.injEq,and_true,Value.slice.injEq] at hcs
  obtain ⟨_,rfl,_⟩:=hcs
  rw [hx] at hs
  have:=hs ((((List.range n).map D).length+((List.range (m - n)).map fun j=>D (n+j)).length) * Tryz.prog.bytesOf 51) (by simp [DataW.weights,Tryz.underlying46])
  rw [bytesRef,List.length_map,List.length_range] at this
  have h2:n * 16≤(n+((List.range (m - n)).map fun j=>D (n+j)).length) * 16:=Nat.mul_le_mul_right _ (by omega)
  omega
theorem weights_slice {elems sp:List (DataW H)} {t e:TypeId} (ht:Tryz.prog.underlying t=some (.slice e)) {d:DataW H} (hd:d∈elems) {n:Nat} (hn:n∈d.weights Tryz.prog e):n∈(DataW.slice elems sp).weights Tryz.prog t:=by
 have hall:∀ (l:List (DataW H)),d∈l→n∈DataW.weightsAll Tryz.prog e l:=by
  intro l
  induction l with
  | nil=>intro h;exact absurd h List.not_mem_nil
  | cons a r ih=>
   intro h
   rw [DataW.weightsAll,List.mem_append]
   rcases List.mem_cons.1 h with rfl | h
   ·exact .inl hn
   ·exact .inr (ih h)
 simp only [DataW.weights,ht,List.mem_cons,List.mem_append]
 exact .inr (.inl (hall elems hd))
set_option maxRecDepth 100000 in
theorem books_sized {bv:List Value} {es:List JV} {ms:List MV} {d:DataW H} {p:List MemPlace} (h:DataW.Trod enc Tryz.prog w base spare held 36 (.agg bv.toArray) d p) (hb:Bks w bv es ms)
  (hs:∀ n∈d.weights Tryz.prog 36,n≤reachBytes):∀ m∈ms,m.x.left.length * 16≤reachBytes∧m.x.right.length * 16≤reachBytes:=by
 obtain ⟨ao,cap,b,o,he,hm⟩:=hb.mts
 have hbl:=hb.len
 obtain ⟨fuel,hf⟩:=h
 obtain ⟨xs,n,_,hx,_,hl,hg⟩:=DataW.trod_struct Tryz.underlying36 hf
 simp only [Prod.mk.injEq] at hx
 obtain ⟨rfl,_⟩:=hx
 match xs,hl with
 | [y0,y1,y2,y3,y4,y5,y6],_=>
  have g4:DataW.trod enc Tryz.prog w base spare held n 33 ((bv.drop 24).take (Tryz.prog.cellsOf 33))=some y4:=hg 4 _ rfl
  rw [cMts] at g4
  have t4:(bv.drop 24).take 1=[bv[24]'(by omega)]:=by rw [List.drop_eq_getElem_cons (by omega)];rfl
  rw [t4] at g4
  rw [List.getElem?_eq_getElem (by omega)] at he
  rw [Option.some.inj he] at g4
  have hs4:∀ k∈y4.1.weights Tryz.prog 33,k≤reachBytes:=fun k hk=>by
   refine hs k ?_
   simp only [DataW.weights,Tryz.underlying36]
   exact DataW.weights_mem_each (j:=4) rfl rfl k hk
  intro mm hmm
  obtain ⟨i,hi,rfl⟩:=List.getElem_of_mem hmm
  rcases open_slice Tryz.underlying33 g4 with ⟨hcs,_⟩ | ⟨a,len,cp,m,k,D,Pl,hcs,_,hll,hmx,hmm2,hx,hix⟩
  ·simp only [List.cons.injEq,and_true,Value.slice.injEq] at hcs
   omega
  ·simp only [List.cons.injEq,and_true,Value.slice.injEq] at hcs
   obtain ⟨rfl,hlen,_⟩:=hcs
   have ha:=hm.row.addr (by omega)
   simp only [Option.some.injEq] at ha
   subst ha
   obtain ⟨cs,hc,ht⟩:=hix i (by rw [hmm2];split <;> omega)
   rw [cMt] at hc
   obtain ⟨_,hcl,hat⟩:=World.cells?_some hc
   have hsi:∀ k∈(D i).weights Tryz.prog 48,k≤reachBytes:=fun k hk=>by
    refine hs4 k ?_
    rw [hx]
    exact weights_slice Tryz.underlying33 (List.mem_map_of_mem (List.mem_range.2 (by omega))) hk
   have a1:=hat 1 (by omega)
   have a2:=hat 2 (by omega)
   rw [Go.Deep.add_add,Addr.add_lit] at a1 a2
   have c1:=hm.row.cell MV.len i hi 1 _ rfl
   have c2:=hm.row.cell MV.len i hi 2 _ rfl
   rw [Nat.add_assoc] at c1 c2
   rw [c1] at a1
   rw [c2] at a2
   match cs,hcl with
   | [v0,v1,v2,v3],_=>
    simp only [List.getElem?_cons_succ,List.getElem?_cons_zero,Option.some.injEq] at a1 a2
    obtain ⟨zs,n2,_,hz,_,hzl,hzg⟩:=DataW.trod_struct Tryz.underlying48 ht
    match zs,hzl with
    | [z0,z1,z2,z3],_=>
     simp only [Prod.mk.injEq] at hz
     rw [hz.1] at hsi
     have q1:DataW.trod enc Tryz.prog w base spare held n2 46 [v1]=some z1:=by simpa [cRfs] using hzg 1 _ rfl
     have q2:DataW.trod enc Tryz.prog w base spare held n2 46 [v2]=some z2:=by simpa [cRfs] using hzg 2 _ rfl
     rw [← a1] at q1
     rw [← a2] at q2
     refine ⟨sized_refs q1 fun k hk=>hsi k ?_,sized_refs q2 fun k hk=>hsi k ?_⟩
     ·simp only [DataW.weights,Tryz.underlying48]
      exact DataW.weights_mem_each (j:=1) rfl rfl k hk
     ·simp only [DataW.weights,Tryz.underlying48]
      exact DataW.weights_mem_each (j:=2) rfl rfl k hk
end
end Go.Proofs.YtoaidbhiciaeaaaGreat

end
