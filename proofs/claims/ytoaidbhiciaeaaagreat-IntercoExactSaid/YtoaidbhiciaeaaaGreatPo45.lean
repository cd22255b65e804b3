/- Walks and plain facts that the claim rests on (Exm, RI, RT). No condition. -/
import Derived.Test.YtoaidbhiciaeaaaGreatPo44
import Derived.Test.YtoaidbhiciaeaaaGreatPo42
import Derived.Test.YtoaidbhiciaeaaaGreatPo31
set_option linter.unusedSimpArgs false
set_option linter.unusedVariables false
set_option maxHeartbeats 16000000
section
namespace Go.Proofs.YtoaidbhiciaeaaaGreat
open Go.RowKit
def x1S:Jrn:=⟨1,0,20470,0,0,⟨#[]⟩,[⟨20,100,1⟩]⟩
def x2S:Jrn:=⟨2,1,20470,0,0,⟨#[]⟩,[⟨60,-98,0⟩]⟩
def mS:Mt:=⟨3,[⟨1,0⟩],[⟨2,0⟩],4⟩
def hsS:List Hol:=[⟨0,1,-25567,10000⟩]
def itS:List Itm:=[⟨⟨1,0⟩,0,1100,1,20470,100⟩,⟨⟨2,0⟩,1,2000,0,20470,-98⟩]
def esS (l:Nat) (q:Nat):List JV:=[⟨x1S,some ⟨l,0,none⟩,1,l,0⟩,⟨x2S,some ⟨q,0,none⟩,1,q,0⟩]
def msS (r q:Nat):List MV:=[⟨mS,some ⟨r,0,none⟩,1,r,0,some ⟨q,0,none⟩,1,q,0⟩]
def pstS:List Pst:=[⟨3,0,3,0,[⟨1100,-100⟩,⟨2000,98⟩,⟨5600,2⟩]⟩]
theorem datesS:datesC hsS=[-25567]:=datesC_eq ⟨by simp [Asc],fun x=>by simp [hsS,eq_comm]⟩
set_option maxRecDepth 100000 in
theorem fullS (en:Int) (h:((curR (ivR (gS.ents.map Ent.joint) hsS [-25567] en) (dayB gS 0)).2 == 0 && (curR (ivR (gS.ents.map Ent.joint) hsS [-25567] en) (dayB gS 0)).1.mth == 3)=true):fullB gS hsS (dayB gS 0) en=true:=by
 unfold fullB curC
 rw [datesS]
 exact h
set_option maxRecDepth 100000 in
theorem grpS:grpB gS=true:=by decide +kernel
set_option maxRecDepth 100000 in
theorem holS:hvalidB (gS.ents.length:Int) hsS=true:=by decide +kernel
set_option maxRecDepth 100000 in
theorem allS (l q r t:Nat):allMB (esS l q) (msS r t)=true:=by kernel_rfl
set_option maxRecDepth 100000 in
theorem full0:fullB gS hsS (dayB gS 0) 0=true:=fullS 0 (by decide +kernel)
set_option maxRecDepth 100000 in
theorem full1:fullB gS hsS (dayB gS 0) 1=true:=fullS 1 (by decide +kernel)
set_option maxRecDepth 100000 in
theorem sidS (l q:Nat):sidesR (esS l q) mS=(0,1,0):=by kernel_rfl
set_option maxRecDepth 100000 in
theorem refS:(mS.left ++ mS.right).all (refOk gS.rl.r7 itS (dayB gS 0))=true:=by decide +kernel
set_option maxRecDepth 100000 in
theorem postS:postR gS (dayA gS 0) (sortE [⟨3,0,itS⟩])=(pstS,0):=by kernel_rfl
theorem errS (l q r t:Nat):errI gS (esS l q) hsS (msS r t) 0=0:=by
 unfold errI
 rw [if_pos ⟨grpS,holS,allS l q r t⟩]
 rfl
theorem postsS (l q r t:Nat):postsF gS (esS l q) hsS (msS r t) itS 0=(pstS,0):=by
 unfold postsF
 rw [if_pos (errS l q r t)]
 have hb:eliB gS (esS l q) hsS itS (dayB gS 0) mS=true:=by
  unfold eliB
  rw [sidS]
  simp only [full0,full1,refS]
  rfl
 have he:elisR gS (esS l q) hsS itS (dayB gS 0) (msS r t)=[⟨3,0,itS⟩]:=by
  unfold elisR msS
  rw [List.filter_cons]
  simp only [hb,if_true,List.filter_nil,List.map_cons,List.map_nil]
  unfold eliM
  rw [sidS]
  rfl
 unfold elisS
 rw [he]
 exact postS
theorem okA_of (l:List Acc) (h:l.all (fun x=>decide (-9223372036854775808≤x.code) && decide (x.code≤9223372036854775807) && decide (-9223372036854775808≤x.parent) && decide (x.parent≤9223372036854775807))=true):∀ x∈l,x.OkA:=fun x hx=>by
 have:=List.all_eq_true.1 h x hx
 simp only [Bool.and_eq_true,decide_eq_true_eq] at this
 exact ⟨⟨this.1.1.1,this.1.1.2⟩,this.1.2,this.2⟩
theorem okL_of (l:List Lnk) (h:l.all (fun x=>decide (-9223372036854775808≤x.frm) && decide (x.frm≤9223372036854775807) && decide (-9223372036854775808≤x.to) && decide (x.to≤9223372036854775807) && decide (-9223372036854775808≤x.since) && decide (x.since≤9223372036854775807))=true):∀ x∈l,x.OkL:=fun x hx=>by
 have:=List.all_eq_true.1 h x hx
 simp only [Bool.and_eq_true,decide_eq_true_eq] at this
 exact ⟨⟨this.1.1.1.1.1,this.1.1.1.1.2⟩,⟨this.1.1.1.2,this.1.1.2⟩,this.1.2,this.2⟩
set_option maxRecDepth 100000 in
theorem gS_ok:gS.Ok:=by
 have he:∀ (nm cu:ByteArray) (jt:Bool),nm.size≤maxLen→cu.size≤maxLen→(entS nm cu jt).Ok:=fun nm cu jt h1 h2=>
  ⟨h1,h2,by show (sAcc 14).length≤200;rw [sAcc_len];omega,by show (sLnk 14).length≤400;rw [sLnk_len];omega,okA_of (sAcc 14) (by decide +kernel),okL_of (sLnk 14) (by decide +kernel)⟩
 refine ⟨by decide +kernel,by decide +kernel,okA_of chF (by decide +kernel),fun q hq=>?_,fun e hm=>?_,by decide +kernel⟩
 ·have h:(rolesL rlsS).all (fun q=>decide (-9223372036854775808≤q.code) && decide (q.code≤9223372036854775807))=true:=by decide +kernel
  have:=List.all_eq_true.1 h q hq
  simp only [Bool.and_eq_true,decide_eq_true_eq] at this
  exact this
 ·simp only [gS,List.mem_cons,List.not_mem_nil,or_false] at hm
  rcases hm with rfl | rfl | rfl | rfl <;> exact he _ _ _ (by decide +kernel) (by decide +kernel)
theorem smallS (l q r t:Nat):SmallB gS (esS l q) hsS (msS r t) itS:=by
 refine ⟨gS_ok,fun e he=>?_,by decide,fun x hx=>?_,fun m hm=>?_,fun m hm=>?_,by simp [msS],by simp [itS],fun x hx=>?_⟩
 ·simp only [esS,List.mem_cons,List.not_mem_nil,or_false] at he
  rcases he with rfl | rfl
  ·exact (by decide:x1S.lines.length≤8)
  ·exact (by decide:x2S.lines.length≤8)
 ·simp only [hsS,List.mem_cons,List.not_mem_nil,or_false] at hx
  subst hx;unfold Hol.Ok I64;dsimp only;omega
 ·simp only [msS,List.mem_cons,List.not_mem_nil,or_false] at hm
  subst hm;exact (by decide:mS.left.length≤400∧mS.right.length≤400)
 ·simp only [msS,List.mem_cons,List.not_mem_nil,or_false] at hm
  subst hm;show I64 (3:Int);unfold I64;omega
 ·simp only [itS,List.mem_cons,List.not_mem_nil,or_false] at hx
  rcases hx with rfl | rfl <;> (unfold Rf.Ok I64;dsimp only;omega)
theorem itS_ok:∀ x∈itS,x.OkA:=fun x hx=>by
 simp only [itS,List.mem_cons,List.not_mem_nil,or_false] at hx
 rcases hx with rfl | rfl <;> (unfold Itm.OkA I64;dsimp only;omega)
theorem rowB_setCells {B:Nat} {t:TypeId}:∀ (cs:List Value) (o:Nat) (W:World) (vs:List Value),RowB W B t vs→o+cs.length≤vs.length→RowB (W.setCells B o cs) B t (vs.take o ++ cs ++ vs.drop (o+cs.length))
 | [],o,W,vs,h,_=>by
  have:vs.take o ++ [] ++ vs.drop (o+([]:List Value).length)=vs:=by simp
  rw [this];exact h
 | c :: cs,o,W,vs,h,hl=>by
  simp only [List.length_cons] at hl
  have:=rowB_setCells cs (o+1) (W.setCell ⟨B,o,none⟩ c) (vs.set o c) (h.set o c) (by rw [List.length_set];omega)
  have e:(vs.set o c).take (o+1) ++ cs ++ (vs.set o c).drop (o+1+cs.length)=vs.take o ++ (c :: cs) ++ vs.drop (o+(c :: cs).length):=by
   rw [List.take_set,List.drop_set_of_lt (by omega),List.length_cons]
   have ht:(vs.take (o+1)).set o c=vs.take o ++ [c]:=by
    rw [List.take_succ_eq_append_getElem (by omega)]
    rw [List.set_append_right _ _ (by rw [List.length_take];omega)]
    simp [Nat.min_eq_left (show o≤vs.length by omega)]
   rw [ht]
   simp only [List.append_assoc,List.cons_append,List.nil_append]
   rw [show o+1+cs.length=o+(cs.length+1) from by omega]
  rw [e] at this
  exact this
theorem rowB_all {W:World} {B:Nat} {t:TypeId} {vs cs:List Value} (h:RowB W B t vs) (hl:cs.length=vs.length):RowB (W.setCells B 0 cs) B t cs:=by
 have:=rowB_setCells cs 0 W vs h (by omega)
 rw [List.take_zero,List.nil_append,Nat.zero_add,hl,List.drop_length,List.append_nil] at this
 exact this
def bkS (cv ev es hv ms:Value):List Value:=gS.cells cv ev ++ [es,.slice none 0 0,hv,ms,.slice none 0 0,.string ⟨#[]⟩]
def zB:List Value:=zG ++ [.slice none 0 0,.slice none 0 0,.slice none 0 0,.slice none 0 0,.slice none 0 0,.string ⟨#[]⟩]
theorem bkS_one {cv ev es hv ms:Value} (h1:cv.oneCell'=true) (h2:ev.oneCell'=true) (h3:es.oneCell'=true) (h4:hv.oneCell'=true) (h5:ms.oneCell'=true):∀ v∈bkS cv ev es hv ms,v.oneCell'=true:=by
 intro v hv
 unfold bkS at hv
 rcases List.mem_append.1 hv with h | h
 ·exact gS_one gS cv ev h1 h2 v h
 ·simp only [List.mem_cons,List.not_mem_nil,or_false] at h
  rcases h with rfl | rfl | rfl | rfl | rfl | rfl <;> first | rfl | assumption
set_option maxRecDepth 100000 in
theorem wpList_bbk {w:World} {ops:Array Oper} {rest:List Oper} {op:Oper} {a:Act} {Q:Exit→Act→World→Prop} (hgd:op.guard=none) (s t:Operand) (ho:op.op=Op.build 36 #[(0,s),(3,t)])
  (cv ev:Value) (ah:Option Addr) (nh ch:Nat) (hs:a.eval s=.agg (gS.cells cv ev).toArray) (ht:a.eval t=.slice ah nh ch)
  (h:wpList Tryz.prog ops Q rest (a.put op.dst (.agg (bkS cv ev (.slice none 0 0) (.slice ah nh ch) (.slice none 0 0)).toArray)) w):wpList Tryz.prog ops Q (op :: rest) a w:=by
 refine wpList_plain hgd fun KK hKK=>?_
 have hr:(Instr.build 36 #[(0,.agg (gS.cells cv ev).toArray),(3,.slice ah nh ch)]).run Tryz.prog w=.ok (.agg (bkS cv ev (.slice none 0 0) (.slice ah nh ch) (.slice none 0 0)).toArray) w:=run_build w _ _ _ (by kernel_rfl)
 unfold Oper.wp
 simp only [execOp,ho]
 simp [hs,ht,hr,Result.andThen]
 exact hKK _ _ h
end Go.Proofs.YtoaidbhiciaeaaaGreat

end
section
namespace Go.Proofs.YtoaidbhiciaeaaaGreat
open Go.RowKit
section
variable {P:Program} {ops:Array Oper} {Q:Exit→Act→World→Prop}
end
variable {W0:World} {T:TypeId} {bv:List Value} {listed:Array Bool} {f:Nat→Value} {w w2:World}
theorem RowB.sets_other {B b:Nat} {cs vs:List Value} (h:RowB w b T cs) (hne:b≠B):RowB (w.setCells B 0 vs) b T cs:=by
 have:∀ (vs:List Value) (o:Nat) (W:World),RowB W b T cs→RowB (W.setCells B o vs) b T cs:=by
  intro vs
  induction vs with
  | nil=>exact fun _ _ h=>h
  | cons v vs ih=>exact fun o W h=>ih (o+1) _ (h.other (p:=⟨B,o,none⟩) (fun e=>hne e.symm) v)
 exact this vs 0 w h
theorem rowB_thereI {b:Nat} {vs:List Value} (h:RowB w b T vs):w.there b 0 vs.length:=fun j hj=>by
 rw [Nat.zero_add]
 exact ⟨by rw [h.cell j vs[j] (List.getElem?_eq_getElem hj)];rfl,h.frozen j⟩
end Go.Proofs.YtoaidbhiciaeaaaGreat

end
section
namespace Go.Proofs.YtoaidbhiciaeaaaGreat
open Go.RowKit
structure RT (N:Nat) (T1 T2:TypeId) (P1 P2:List Value→Prop) (n1 n2:Nat) (w w':World):Prop where
 size:w.heap.size≤w'.heap.size
 keep:∀ w0:World,w0.heap.size≤N→Keeps w0 w→Keeps w0 w'
 e1:∀ b,(∃ cs,cs.length=n1∧RowB w b T1 cs)→∃ cs,cs.length=n1∧RowB w' b T1 cs
 e2:∀ b,(∃ cs,cs.length=n2∧RowB w b T2 cs)→∃ cs,cs.length=n2∧RowB w' b T2 cs
 f1:∀ b,(∃ cs,P1 cs∧RowB w b T1 cs)→∃ cs,P1 cs∧RowB w' b T1 cs
 f2:∀ b,(∃ cs,P2 cs∧RowB w b T2 cs)→∃ cs,P2 cs∧RowB w' b T2 cs
variable {N:Nat} {T1 T2:TypeId} {P1 P2:List Value→Prop} {n1 n2:Nat}
theorem RT.refl (w:World):RT N T1 T2 P1 P2 n1 n2 w w:=⟨Nat.le_refl _,fun _ _ h=>h,fun _ h=>h,fun _ h=>h,fun _ h=>h,fun _ h=>h⟩
theorem RT.trans {a b c:World} (h:RT N T1 T2 P1 P2 n1 n2 a b) (k:RT N T1 T2 P1 P2 n1 n2 b c):RT N T1 T2 P1 P2 n1 n2 a c:=
 ⟨Nat.le_trans h.size k.size,fun w0 h0 h1=>k.keep w0 h0 (h.keep w0 h0 h1),fun q h1=>k.e1 q (h.e1 q h1),fun q h1=>k.e2 q (h.e2 q h1),fun q h1=>k.f1 q (h.f1 q h1),fun q h1=>k.f2 q (h.f2 q h1)⟩
theorem RT.keeps {a b:World} (h:Keeps a b):RT N T1 T2 P1 P2 n1 n2 a b:=
 ⟨h.size,fun w0 _ h1=>h1.trans h,fun q ⟨cs,h1,h2⟩=>⟨cs,h1,h2.keeps h⟩,fun q ⟨cs,h1,h2⟩=>⟨cs,h1,h2.keeps h⟩,fun q ⟨cs,h1,h2⟩=>⟨cs,h1,h2.keeps h⟩,fun q ⟨cs,h1,h2⟩=>⟨cs,h1,h2.keeps h⟩⟩
theorem rowB_type {w:World} {b:Nat} {T T':TypeId} {cs cs':List Value} (h:RowB w b T cs) (h':RowB w b T' cs'):T=T':=by
 have h1:w.heap[b]?=_:=h
 have h2:w.heap[b]?=_:=h'
 rw [h1] at h2
 simp only [Option.some.injEq,Obj.cells.injEq] at h2
 exact h2.2.1
theorem RT.set1 (hne:T1≠T2) {w:World} {b:Nat} (hb:N≤b) {cs C:List Value} (hr:RowB w b T1 cs) (hl:C.length=cs.length) (hl1:cs.length=n1) (hp:P1 C):RT N T1 T2 P1 P2 n1 n2 w (w.setCells b 0 C):=by
 have hn:=rowB_all hr hl
 refine ⟨by rw [size_sets];exact Nat.le_refl _,fun w0 h0 h1=>keeps_setCellsP (Nat.le_trans h0 hb) _ _ _ h1,fun q ⟨c2,h1,h2⟩=>?_,fun q ⟨c2,h1,h2⟩=>?_,fun q ⟨c2,h1,h2⟩=>?_,fun q ⟨c2,h1,h2⟩=>?_⟩
 ·by_cases e:q=b
  ·subst e;exact ⟨C,hl.trans hl1,hn⟩
  ·exact ⟨c2,h1,h2.sets_other e⟩
 ·exact ⟨c2,h1,h2.sets_other fun e=>by subst e;exact hne (rowB_type hr h2)⟩
 ·by_cases e:q=b
  ·subst e;exact ⟨C,hp,hn⟩
  ·exact ⟨c2,h1,h2.sets_other e⟩
 ·exact ⟨c2,h1,h2.sets_other fun e=>by subst e;exact hne (rowB_type hr h2)⟩
theorem RT.set2 (hne:T1≠T2) {w:World} {b:Nat} (hb:N≤b) {cs C:List Value} (hr:RowB w b T2 cs) (hl:C.length=cs.length) (hl1:cs.length=n2) (hp:P2 C):RT N T1 T2 P1 P2 n1 n2 w (w.setCells b 0 C):=by
 have hn:=rowB_all hr hl
 refine ⟨by rw [size_sets];exact Nat.le_refl _,fun w0 h0 h1=>keeps_setCellsP (Nat.le_trans h0 hb) _ _ _ h1,fun q ⟨c2,h1,h2⟩=>?_,fun q ⟨c2,h1,h2⟩=>?_,fun q ⟨c2,h1,h2⟩=>?_,fun q ⟨c2,h1,h2⟩=>?_⟩
 ·exact ⟨c2,h1,h2.sets_other fun e=>by subst e;exact hne (rowB_type h2 hr)⟩
 ·by_cases e:q=b
  ·subst e;exact ⟨C,hl.trans hl1,hn⟩
  ·exact ⟨c2,h1,h2.sets_other e⟩
 ·exact ⟨c2,h1,h2.sets_other fun e=>by subst e;exact hne (rowB_type h2 hr)⟩
 ·by_cases e:q=b
  ·subst e;exact ⟨C,hp,hn⟩
  ·exact ⟨c2,h1,h2.sets_other e⟩
end Go.Proofs.YtoaidbhiciaeaaaGreat

end
