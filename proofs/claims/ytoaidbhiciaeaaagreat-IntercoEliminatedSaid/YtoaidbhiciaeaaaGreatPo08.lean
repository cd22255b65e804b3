/- Walks and plain facts that the claim rests on (HolPairW, HolAtW, HolTotW). No condition. -/
import Derived.Test.YtoaidbhiciaeaaaGreatPo07
import Derived.Shelf.Abstract
import Derived.Shelf.RegionOpen
import Derived.WalkKit
import Derived.OwnWalkIn
import Derived.TacticsInMore
import Derived.LoopNIn
import Derived.LoopIn
import Derived.Outline
import Derived.Test.YtoaidbhiciaeaaaGreatProg
import Derived.Test.YtoaidbhiciaeaaaGreatPo02
import Derived.Maps.RangeWalk
set_option linter.unusedSimpArgs false
set_option linter.unusedVariables false
set_option maxHeartbeats 16000000
section
namespace Go.Proofs.YtoaidbhiciaeaaaGreat
open Go.RowKit Go.Shelf
attribute [local go_sem] Oper.semAt_some
theorem pair_in (F:Fence) (n:Nat) (h1:F.fn 150) (hro:F.round=none) (ao:Option Addr) (len cap:Nat) (h e:Int) (w:World) :
  CallsIn F n Tryz.prog 150 #[.slice ao len cap,.int .i64 h,.int .i64 e] w fun en w'=>en=.returned (.func (.func 173) #[] #[.pointer (some ⟨w.heap.size,0,none⟩),.pointer (some ⟨w.heap.size+1,0,none⟩),.pointer (some ⟨w.heap.size+1+1,0,none⟩)])∧
   w'=((w.alloc (.cells #[.slice ao len cap] 32)).alloc (.cells #[.int .i64 h] 3)).alloc (.cells #[.int .i64 e] 3):=by
 refine callsIn_of_wp Tryz.func150 rfl h1 ?_ hro
 simp only [Tryz.ntmps150,List.size_toArray,List.length_cons,List.length_nil,Nat.reduceAdd,Nat.reduceSub,Array.replicate_succ,Array.replicate_zero,List.push_toArray,List.append_toArray,List.nil_append,List.cons_append]
 gi_wp2
 go_ret
 exact ⟨rfl,rfl⟩
structure PairG (W:World) (B0:Nat) (ao:Option Addr) (xs:List Hol) (cap b o:Nat) (h e:Int):Prop where
 c0:W.cell? ⟨B0,0,none⟩=some (.slice ao xs.length cap)
 c1:W.cell? ⟨B0+1,0,none⟩=some (.int .i64 h)
 c2:W.cell? ⟨B0+1+1,0,none⟩=some (.int .i64 e)
 hs:Hols W ao xs cap b o
set_option maxRecDepth 100000 in
theorem pair1_in (F:Fence) (n:Nat) (h1:F.fn 173) (hro:F.round=none) (hn:1≤n) (l B0 N0 lo hi:Nat) (ao:Option Addr) (xs:List Hol) (cap b o:Nat) (h e:Int) (J Jx:List Hol→World→Prop)
  (hB0:B0+1+1 < N0) (hhi:hi≤B0) (hbN:xs.length≠0→b < N0) (hb:xs.length≠0→b < lo)
  (hY:∀ pre x W,J pre W→pre.length < xs.length→YieldAt F (n - 1) Tryz.prog l #[x.val] W fun en W'=>
   (en=.returned (.bool true)∧J (pre ++ [x]) W'∧KeepBut N0 lo hi W W')∨(en=.returned (.bool false)∧Jx (pre ++ [x]) W'))
  (W:World) (hJ:AbidesFrom W.heap.size J) (hN:N0≤W.heap.size) (hG:PairG W B0 ao xs cap b o h e) (h0:J [] W) :
  CallsIn F n Tryz.prog 173 #[.func (.yield l) #[] #[],.pointer (some ⟨B0,0,none⟩),.pointer (some ⟨B0+1,0,none⟩),.pointer (some ⟨B0+1+1,0,none⟩)] W fun en W'=>(∃ v,en=.returned v)∧
   ((∃ ys,ys=ofPair xs h e∧J ys W')∨(∃ pre,pre <+: ofPair xs h e∧Jx pre W')):=by
 have hcap:=Sl.cap hG.hs
 have hle:=Sl.le hG.hs
 have c0:=hG.c0
 have HG:=Lib.hid hG
 have HJ:=Lib.hid hJ
 have HY:=Lib.hid hY
 clear hG hJ hY
 refine callsIn_of_wp Tryz.func173 rfl h1 ?_ hro
 simp only [Tryz.ntmps173,List.size_toArray,List.length_cons,List.length_nil,Nat.reduceAdd,Nat.reduceSub,Array.replicate_succ,Array.replicate_zero,List.push_toArray,List.append_toArray,List.nil_append,List.cons_append]
 gi_wp2
 gi_loopw [9] (fun vi wr=>∃ k:Nat,k≤xs.length∧vi=.int .i64 k∧Hid (J (ofPair (xs.take k) h e) wr∧KeepBut N0 lo hi W wr∧W.heap.size≤wr.heap.size)) (fun vi _=>xs.length - (intOf vi).toNat)
 case atStart=>exact ⟨0,Nat.zero_le _,rfl,Lib.hid ⟨h0,KeepBut.refl _ _ _ _,Nat.le_refl _⟩⟩
 case round=>
  obtain ⟨k,hk,rfl,HW⟩:=hrel
  by_cases hlt:k < xs.length
  ·have hL:Hols wr ao xs cap b o:=HW.out.2.1.hols (hbN (by omega)) (.inl (hb (by omega))) HG.out.hs
   have hix:=Sl.at hL Tryz.underlying32 Tryz.sizeOf101 k hlt
   have l0:=hL.cell Hol.len k hlt 0 _ rfl
   have l1:=hL.cell Hol.len k hlt 1 _ rfl
   have l2:=hL.cell Hol.len k hlt 2 _ rfl
   have l3:=hL.cell Hol.len k hlt 3 _ rfl
   simp only [Nat.add_zero] at l0
   have d1:=HW.out.2.1.cell (p:=⟨B0+1,0,none⟩) (by show B0+1 < N0;omega) (.inr (by show hi≤B0+1;omega)) HG.out.c1
   have d2:=HW.out.2.1.cell (p:=⟨B0+1+1,0,none⟩) (by show B0+1+1 < N0;omega) (.inr (by show hi≤B0+1+1;omega)) HG.out.c2
   have hb1:=World.block_lt_of_cell? _ _ d1
   have hb2:=World.block_lt_of_cell? _ _ d2
   have hw2:=HW.out.2.2
   clear hL
   have HJ2:Hid (J (ofPair (xs.take k) h e) (wr.alloc (.cells #[.int .i64 xs[k].holder,.int .i64 xs[k].entity,.int .i64 xs[k].date,.int .i64 xs[k].share] 101))∧KeepBut N0 lo hi W (wr.alloc (.cells #[.int .i64 xs[k].holder,.int .i64 xs[k].entity,.int .i64 xs[k].date,.int .i64 xs[k].share] 101))):=
    Lib.hid ⟨HJ.out _ _ _ none HW.out.1 (World.grownBy_alloc wr _ none) (fun r e=>by cases e),HW.out.2.1.alloc (by omega) _⟩
   cases p1:(xs[k].holder == h) with
   | false=>
    have hp:Hid (ofPair (xs.take (k+1)) h e=ofPair (xs.take k) h e):=Lib.hid (by rw [take_snoc _ _ hlt];exact ofPair_no (by unfold pairB;rw [p1];rfl))
    gi_wp2
    all_goals
     refine ⟨fun _ h=>(by cases h),?_⟩
     gi_wp2
     go_roundw
     case rel=>exact ⟨k+1,by omega,by go_num,Lib.hid ⟨by rw [hp.out];exact HJ2.out.1,HJ2.out.2,by simp;omega⟩⟩
     case measure=>simp [intOf];omega
   | true=>
    cases p2:(xs[k].entity == e) with
    | false=>
     have hp:Hid (ofPair (xs.take (k+1)) h e=ofPair (xs.take k) h e):=Lib.hid (by rw [take_snoc _ _ hlt];exact ofPair_no (by unfold pairB;rw [p1,p2];rfl))
     gi_wp2
     all_goals
      refine ⟨fun _ h=>(by cases h),?_⟩
      gi_wp2
      go_roundw
      case rel=>exact ⟨k+1,by omega,by go_num,Lib.hid ⟨by rw [hp.out];exact HJ2.out.1,HJ2.out.2,by simp;omega⟩⟩
      case measure=>simp [intOf];omega
    | true=>
     have hp:Hid (ofPair (xs.take (k+1)) h e=ofPair (xs.take k) h e ++ [xs[k]]):=Lib.hid (by rw [take_snoc _ _ hlt];exact ofPair_yes (by unfold pairB;rw [p1,p2];rfl))
     have hlen:(ofPair (xs.take k) h e).length < xs.length:=by
      have h1:=ofPair_len (xs.take k) h e
      rw [List.length_take] at h1
      omega
     obtain ⟨fn,tmps,assign,body,hy,hR⟩:=HY.out _ xs[k] _ HJ2.out.1 hlen
     have HR:=Lib.hid hR
     simp only [Hol.val] at hy
     have hw3:W.heap.size≤(wr.alloc (.cells #[.int .i64 xs[k].holder,.int .i64 xs[k].entity,.int .i64 xs[k].date,.int .i64 xs[k].share] 101)).heap.size:=by simp;omega
     clear hR
     gi_wp2
     refine HR.out.mono ?_
     rintro en W3 (⟨rfl,hJ3,hk3⟩ | ⟨rfl,hJx3⟩)
     ·have hw4:=hk3.size
      gi_wp2
      go_roundw
      case rel=>exact ⟨k+1,by omega,by go_num,Lib.hid ⟨by rw [hp.out];exact hJ3,HJ2.out.2.trans hk3,by omega⟩⟩
      case measure=>simp [intOf];omega
     ·have hpre:Hid (ofPair (xs.take k) h e ++ [xs[k]] <+: ofPair xs h e):=Lib.hid (by rw [← hp.out];exact (List.take_prefix _ _).filter _)
      gi_wp2
      refine bodyPost_ret (results_none rfl _ _ _) rfl ?_
      exact ⟨⟨_,rfl⟩,.inr ⟨_,hpre.out,hJx3⟩⟩
  ·obtain rfl:k=xs.length:=by omega
   have hp:Hid (ofPair (xs.take xs.length) h e=ofPair xs h e):=Lib.hid (by rw [List.take_length])
   gi_wp2
   go_end0
   exact ⟨⟨_,rfl⟩,.inl ⟨_,rfl,by rw [← hp.out];exact HW.out.1⟩⟩
theorem pair_stops (F:Fence) (n:Nat) (h1:F.fn 173) (hro:F.round=none) (hn:1≤n) (B0 lo hi:Nat) (ao:Option Addr) (xs:List Hol) (cap b o:Nat) (h e:Int) (w:World)
  (hB0:B0+1+1 < w.heap.size) (hhi:hi≤B0) (hbN:xs.length≠0→b < w.heap.size) (hb:xs.length≠0→b < lo) (hG:PairG w B0 ao xs cap b o h e) :
  SeqStopsK F n Tryz.prog 173 #[.pointer (some ⟨B0,0,none⟩),.pointer (some ⟨B0+1,0,none⟩),.pointer (some ⟨B0+1+1,0,none⟩)] (fun x:Hol=>#[.agg #[.int .i64 x.holder,.int .i64 x.entity,.int .i64 x.date,.int .i64 x.share]]) (KeepBut w.heap.size lo hi) (fun ys=>ys=ofPair xs h e) (fun pre=>pre <+: ofPair xs h e) xs.length w:=
 fun l J Jx W hW hJ hJx hY h0=>by
  have hc:∀ p:Addr,p.block < w.heap.size→∀ v,w.cell? p=some v→W.cell? p=some v:=fun p hp v hv=>(hW.cell hp).trans hv
  refine pair1_in F n h1 hro hn l B0 w.heap.size lo hi ao xs cap b o h e J Jx hB0 hhi hbN hb (fun pre x W1 hj hl=>?_) W hJ hW.size ⟨hc _ (by show B0 < _;omega) _ hG.c0,hc _ (by show B0+1 < _;omega) _ hG.c1,hc _ hB0 _ hG.c2,⟨hG.hs.len,hG.hs.le,hG.hs.nocap,hG.hs.cap,hG.hs.addr,fun j u hu=>hc ⟨b,o+j,none⟩ (hbN (fun e0=>by
   have:=Sl.len hG.hs
   rw [e0] at this
   have h2:xs.flatMap Hol.cells=[]:=List.eq_nil_of_length_eq_zero (by omega)
   rw [h2] at hu;simp at hu)) u (Sl.cell hG.hs j u hu)⟩⟩ h0
  exact hY pre x W1 hj hl
end Go.Proofs.YtoaidbhiciaeaaaGreat

end
section
namespace Go.Proofs.YtoaidbhiciaeaaaGreat
open Go.RowKit Go.Shelf
attribute [local go_sem] Oper.semAt_some
def Box4 (W:World) (B:Nat) (x:Hol):Prop:=W.heap[B]?=some (.cells #[.int .i64 x.holder,.int .i64 x.entity,.int .i64 x.date,.int .i64 x.share] 101 (0,0))
theorem Box4.new (W:World) (x:Hol):Box4 (W.alloc (.cells #[.int .i64 x.holder,.int .i64 x.entity,.int .i64 x.date,.int .i64 x.share] 101)) W.heap.size x:=World.alloc_heap_new W _
theorem Box4.own {X Y:World} {row:Option Nat} {B:Nat} {x:Hol} (h:Box4 X B x) (hg:X.grownBy Y row) (hr:∀ r,row=some r→∃ o:Obj,X.heap[r]?=some o∧o.isCells=false):Box4 Y B x:=by
 refine (hg.block B (Array.getElem?_eq_some_iff.1 h).1 (fun e=>?_)).trans h
 obtain ⟨o,ho,hc⟩:=hr B e.symm
 rw [show X.heap[B]?=_ from h] at ho
 cases ho;cases hc
theorem Box4.cells {W:World} {B:Nat} {x:Hol} (h:Box4 W B x):W.cell? ⟨B,0,none⟩=some (.int .i64 x.holder)∧W.cell? ⟨B,1,none⟩=some (.int .i64 x.entity)∧W.cell? ⟨B,2,none⟩=some (.int .i64 x.date)∧W.cell? ⟨B,3,none⟩=some (.int .i64 x.share):=by
 refine ⟨?_,?_,?_,?_⟩ <;> simp [World.cell?,show W.heap[B]?=_ from h]
def AtI (w:World) (N:Nat) (d:Int) (c:Option Hol) (W:World):Prop:=
 ((Boxed W (w.heap.size+1) 3 (.int .i64 (shareOf c))∧Boxed W (w.heap.size+1+1) 3 (.int .i64 (sinceOf c)))∧(Boxed W (w.heap.size+1+1+1) 4 (.bool c.isSome)∧Boxed W w.heap.size 3 (.int .i64 d)))∧(Below w.heap.size w W∧N≤W.heap.size)
theorem three {w W:World} {N:Nat} {d:Int} {c c':Option Hol} (hI:AtI w N d c W) (x:Hol) (hN:w.heap.size+7≤N) (hc:c'=some x) :
  KeepsFrom N W (((W.setCell ⟨w.heap.size+1,0,none⟩ (.int .i64 x.share)).setCell ⟨w.heap.size+1+1,0,none⟩ (.int .i64 x.date)).setCell ⟨w.heap.size+1+1+1,0,none⟩ (.bool true)).drew∧
  KeepBut N (w.heap.size+1) (w.heap.size+1+1+1+1) W (((W.setCell ⟨w.heap.size+1,0,none⟩ (.int .i64 x.share)).setCell ⟨w.heap.size+1+1,0,none⟩ (.int .i64 x.date)).setCell ⟨w.heap.size+1+1+1,0,none⟩ (.bool true)).drew∧
  AtI w N d c' (((W.setCell ⟨w.heap.size+1,0,none⟩ (.int .i64 x.share)).setCell ⟨w.heap.size+1+1,0,none⟩ (.int .i64 x.date)).setCell ⟨w.heap.size+1+1+1,0,none⟩ (.bool true)).drew:=by
 subst hc
 obtain ⟨⟨⟨b1,b2⟩,⟨b3,b4⟩⟩,⟨hb,hn⟩⟩:=hI
 have n1:w.heap.size+1≠w.heap.size+1+1:=by omega
 have n2:w.heap.size+1≠w.heap.size+1+1+1:=by omega
 have n3:w.heap.size+1+1≠w.heap.size+1+1+1:=by omega
 have n4:w.heap.size≠w.heap.size+1:=by omega
 have n5:w.heap.size≠w.heap.size+1+1:=by omega
 have n6:w.heap.size≠w.heap.size+1+1+1:=by omega
 refine ⟨((((KeepsOthers.setCell W _ _).trans (KeepsOthers.setCell _ _ _)).trans (KeepsOthers.setCell _ _ _)).trans (KeepsOthers.drew _)).from _,
  (((((KeepBut.refl N _ _ W).setCell (p:=⟨w.heap.size+1,0,none⟩) (by first | (simp;done) | (simp;omega)) (by first | (simp;done) | (simp;omega)) _).setCell (p:=⟨w.heap.size+1+1,0,none⟩) (by first | (simp;done) | (simp;omega)) (by first | (simp;done) | (simp;omega)) _).setCell (p:=⟨w.heap.size+1+1+1,0,none⟩) (by first | (simp;done) | (simp;omega)) (by first | (simp;done) | (simp;omega)) _).drew),
  ⟨⟨⟨((b1.set _).other n1 _).other n2 _,((b2.other n1.symm _).set _).other n3 _⟩,⟨((b3.other n2.symm _).other n3.symm _).set _,((b4.other n4 _).other n5 _).other n6 _⟩⟩,⟨(((hb.setCell (p:=⟨w.heap.size+1,0,none⟩) (by simp) _).setCell (p:=⟨w.heap.size+1+1,0,none⟩) (by simp;omega) _).setCell (p:=⟨w.heap.size+1+1+1,0,none⟩) (by simp;omega) _).drew,by simpa [World.setCell,World.drew] using hn⟩⟩⟩
set_option maxRecDepth 100000 in
theorem at_in (F:Fence) (n:Nat) (h1:F.fn 111) (h2:F.fn 150) (h3:F.fn 173) (hro:F.round=none) (hn:4≤n) (ao:Option Addr) (xs:List Hol) (cap b o:Nat) (h e d:Int) (w:World) (H:Hols w ao xs cap b o) :
  CallsIn F n Tryz.prog 111 #[.slice ao xs.length cap,.int .i64 h,.int .i64 e,.int .i64 d] w fun en w'=>en=.returned (.int .i64 (atH xs h e d))∧Keeps w w':=by
 have hn1:1≤n:=by omega
 have HH:=Lib.hid H
 clear H
 refine callsIn_of_wp_marks Tryz.func111 rfl h1 ?_ hro
 simp only [Tryz.ntmps111,List.size_toArray,List.length_cons,List.length_nil,Nat.reduceAdd,Nat.reduceSub,Array.replicate_succ,Array.replicate_zero,List.push_toArray,List.append_toArray,List.nil_append,List.cons_append]
 gi_wp2_with (gi_at_call 150;refine (pair_in F (n - 1) h2 hro _ _ _ _ _ _).mono ?_;rintro en w' ⟨rfl,rfl⟩)
 have bD:=((((((Boxed.new w 3 (.int .i64 d)).alloc (.cells #[.int .i64 0] 3)).alloc (.cells #[.int .i64 0] 3)).alloc (.cells #[.bool false] 4)).alloc (.cells #[.slice ao xs.length cap] 32)).alloc (.cells #[.int .i64 h] 3)).alloc (.cells #[.int .i64 e] 3)
 have bS:=(((((Boxed.new (w.alloc (.cells #[.int .i64 d] 3)) 3 (.int .i64 0)).alloc (.cells #[.int .i64 0] 3)).alloc (.cells #[.bool false] 4)).alloc (.cells #[.slice ao xs.length cap] 32)).alloc (.cells #[.int .i64 h] 3)).alloc (.cells #[.int .i64 e] 3)
 have bT:=((((Boxed.new ((w.alloc (.cells #[.int .i64 d] 3)).alloc (.cells #[.int .i64 0] 3)) 3 (.int .i64 0)).alloc (.cells #[.bool false] 4)).alloc (.cells #[.slice ao xs.length cap] 32)).alloc (.cells #[.int .i64 h] 3)).alloc (.cells #[.int .i64 e] 3)
 have bF:=(((Boxed.new (((w.alloc (.cells #[.int .i64 d] 3)).alloc (.cells #[.int .i64 0] 3)).alloc (.cells #[.int .i64 0] 3)) 4 (.bool false)).alloc (.cells #[.slice ao xs.length cap] 32)).alloc (.cells #[.int .i64 h] 3)).alloc (.cells #[.int .i64 e] 3)
 simp only [World.size_alloc] at bS bT bF
 have hB0:Keeps w (((((((w.alloc (.cells #[.int .i64 d] 3)).alloc (.cells #[.int .i64 0] 3)).alloc (.cells #[.int .i64 0] 3)).alloc (.cells #[.bool false] 4)).alloc (.cells #[.slice ao xs.length cap] 32)).alloc (.cells #[.int .i64 h] 3)).alloc (.cells #[.int .i64 e] 3)):=(((((((Keeps.refl w).alloc _).alloc _).alloc _).alloc _).alloc _).alloc _).alloc _
 have hsz:((((((((w.alloc (.cells #[.int .i64 d] 3)).alloc (.cells #[.int .i64 0] 3)).alloc (.cells #[.int .i64 0] 3)).alloc (.cells #[.bool false] 4)).alloc (.cells #[.slice ao xs.length cap] 32)).alloc (.cells #[.int .i64 h] 3)).alloc (.cells #[.int .i64 e] 3))).heap.size=w.heap.size+7:=by simp
 have hG:PairG (((((((w.alloc (.cells #[.int .i64 d] 3)).alloc (.cells #[.int .i64 0] 3)).alloc (.cells #[.int .i64 0] 3)).alloc (.cells #[.bool false] 4)).alloc (.cells #[.slice ao xs.length cap] 32)).alloc (.cells #[.int .i64 h] 3)).alloc (.cells #[.int .i64 e] 3)) (w.heap.size+1+1+1+1) ao xs cap b o h e:=⟨by go_simp,by go_simp,by go_simp,HH.out.keeps hB0⟩
 obtain ⟨W0,hW0⟩:∃ W0,(((((((w.alloc (.cells #[.int .i64 d] 3)).alloc (.cells #[.int .i64 0] 3)).alloc (.cells #[.int .i64 0] 3)).alloc (.cells #[.bool false] 4)).alloc (.cells #[.slice ao xs.length cap] 32)).alloc (.cells #[.int .i64 h] 3)).alloc (.cells #[.int .i64 e] 3))=W0:=⟨_,rfl⟩
 rw [hW0] at bD bS bT bF hB0 hsz hG ⊢
 have hs1:w.heap.size+7≤W0.heap.size:=by omega
 have hs2:W0.heap.size≤w.heap.size+7:=by omega
 clear hW0 hsz
 have hbw:xs.length≠0→b < w.heap.size:=fun hne=>by
  have hc:=HH.out.cell Hol.len 0 (by omega) 0 _ rfl
  exact World.block_lt_of_cell? _ _ hc
 refine wpIn_rangeFunc_ownH hro hn1 (gf:=173) (lb:=#[.pointer (some ⟨w.heap.size+1+1+1+1,0,none⟩),.pointer (some ⟨w.heap.size+1+1+1+1+1,0,none⟩),.pointer (some ⟨w.heap.size+1+1+1+1+1+1,0,none⟩)]) rfl h3 (enters_of Tryz.func173 (by kernel_rfl) rfl)
  (pair_stops F (n - 1) h3 hro (by omega) (w.heap.size+1+1+1+1) (w.heap.size+1) (w.heap.size+1+1+1+1) ao xs cap b o h e W0 (by omega) (by omega) (fun hne=>by have:=hbw hne;omega) (fun hne=>by have:=hbw hne;omega) hG)
  (fun h k=>h.trans k) (fun W l o o' hl _ _ _=>KeepBut.putObj W l o' hl) (Below.refl _ _) (fun _=>rfl)
  (fun pre W=>((Boxed W (w.heap.size+1) 3 (.int .i64 (shareOf (curH d pre)))∧Boxed W (w.heap.size+1+1) 3 (.int .i64 (sinceOf (curH d pre))))∧(Boxed W (w.heap.size+1+1+1) 4 (.bool (curH d pre).isSome)∧Boxed W w.heap.size 3 (.int .i64 d)))∧(Below w.heap.size w W∧W0.heap.size≤W.heap.size))
  (fun _ _ _=>False)
  (OwnFrom.and (OwnFrom.and (OwnFrom.and (Own.from (boxed_own _ _ _) _) (Own.from (boxed_own _ _ _) _)) (OwnFrom.and (Own.from (boxed_own _ _ _) _) (Own.from (boxed_own _ _ (fun _=>Value.int .i64 d)) _))) (OwnFrom.and (ownFrom_below (Nat.le_refl _) (by omega)) (fun s X Y row hs hg hr=>Nat.le_trans hs hg.size)))
  (fun _ _ _ _ _ hs _ _=>hs)
  ⟨⟨⟨bS,bT⟩,⟨bF,bD⟩⟩,⟨hB0,Nat.le_refl _⟩⟩
  (fun x a' W=>∃ Bx,w.heap.size+1+1+1 < Bx∧Box4 W Bx x∧a'={ tmps:=#[.slice ao xs.length cap,.int .i64 h,.int .i64 e,.int .i64 d,undef,undef,undef,.pointer (some ⟨w.heap.size,0,none⟩),.int .i64 0,.pointer (some ⟨w.heap.size+1,0,none⟩),.pointer (some ⟨w.heap.size+1+1,0,none⟩),.pointer (some ⟨w.heap.size+1+1+1,0,none⟩),.pointer (some ⟨Bx,0,none⟩),.slice ao xs.length cap,.int .i64 h,.int .i64 e,.func (.func 173) #[] #[.pointer (some ⟨w.heap.size+1+1+1+1,0,none⟩),.pointer (some ⟨w.heap.size+1+1+1+1+1,0,none⟩),.pointer (some ⟨w.heap.size+1+1+1+1+1+1,0,none⟩)],.agg #[.int .i64 x.holder,.int .i64 x.entity,.int .i64 x.date,.int .i64 x.share],undef,undef,undef,undef,undef,undef,undef,undef,undef,undef,undef,undef,undef,undef,undef,undef,undef,undef,undef],defers:=[] })
  (fun x a' _ X Y row hs hg hr=>by obtain ⟨Bx,h1,h2,h3⟩:=hs;exact ⟨Bx,h1,h2.own hg (fun r e=>(hr r e).2),h3⟩)
  ?assign ?body ?done ?stop
 case assign=>
  rintro l pre x W K ⟨⟨⟨bS1,bT1⟩,⟨bF1,bD1⟩⟩,⟨hB1,hN1⟩⟩ hK
  gi_wp2
  exact hK _ _ ((KeepsOthers.alloc _ _).from _) ((KeepBut.refl _ _ _ W).alloc hN1 _) ⟨⟨⟨bS1.alloc _,bT1.alloc _⟩,⟨bF1.alloc _,bD1.alloc _⟩⟩,⟨hB1.alloc hB1.size _,by simp;omega⟩⟩ ⟨W.heap.size,bF1.lt,Box4.new W x,rfl⟩
 case body=>
  rintro l pre x a' W hl ⟨r,hr⟩ ⟨⟨⟨bS1,bT1⟩,⟨bF1,bD1⟩⟩,⟨hB1,hN1⟩⟩ ⟨Bx,hBx,bX,rfl⟩ hlt
  obtain ⟨x0,x1,x2,x3⟩:=bX.cells
  have hbx:=(Array.getElem?_eq_some_iff.1 bX).1
  have cS:=bS1.cell
  have cT:=bT1.cell
  have cF:=bF1.cell
  have cD:=bD1.cell
  have fS:=bS1.frozen
  have fT:=bT1.frozen
  have fF:=bF1.frozen
  have HI:=Lib.hid (And.intro (And.intro (And.intro bS1 bT1) (And.intro bF1 bD1)) (And.intro hB1 hN1))
  clear bS1 bT1 bF1 bD1 hB1 hN1 bX hr
  have hmx:Tryz.prog.follows .mixedOrders=true:=by kernel_rfl
  by_cases hd:x.date≤d
  ·cases hc:curH d pre with
   | none=>
    have HC:=Lib.hid (curH_first hd hc)
    rw [hc] at cS cT cF
    simp only [shareOf,sinceOf,Option.isSome_none] at cS cT cF
    clear hc
    gi_wp2
    gi_region_with_o (fail)
    all_goals gi_wp2
    all_goals (try go_bits)
    all_goals (exact three HI.out x hs1 HC.out)
   | some m=>
    by_cases hm:m.date < x.date
    ·have HC:=Lib.hid (curH_new hd hc hm)
     rw [hc] at cS cT cF
     simp only [shareOf,sinceOf,Option.isSome_some] at cS cT cF
     clear hc
     gi_wp2
     gi_region_with_o (fail)
     all_goals gi_wp2
     all_goals (try go_bits)
     all_goals (exact three HI.out x hs1 HC.out)
    ·have HC:=Lib.hid ((curH_old hd hc hm).trans hc.symm)
     rw [hc] at cS cT cF
     simp only [shareOf,sinceOf,Option.isSome_some] at cS cT cF
     clear hc
     gi_wp2
     exact ⟨KeepsFrom.refl _ _,KeepBut.refl _ _ _ _,by show AtI w _ d (curH d (pre ++ [x])) W;rw [HC.out];exact HI.out⟩
  ·have HC:=Lib.hid (curH_late (l:=pre) hd)
   gi_wp2
   exact ⟨KeepsFrom.refl _ _,KeepBut.refl _ _ _ _,by show AtI w _ d (curH d (pre ++ [x])) W;rw [HC.out];exact HI.out⟩
 case done=>
  rintro D ys W hD rfl ⟨⟨⟨bS1,bT1⟩,⟨bF1,bD1⟩⟩,⟨hB1,hN1⟩⟩ hK
  have cS:=bS1.cell
  gi_wp2
  refine ⟨by simp,.inl ⟨_,_,rfl,run_takeDeferred hK,?_⟩⟩
  exact ⟨_,results_tmp rfl _ _ _,rfl,hB1.trans (belowK_b (w:=w) (Nat.le_refl _) W D _ _ (by omega) hK rfl rfl)⟩
 case stop=>
  rintro D c pre W _ _ h _
  exact h.elim
theorem hat_any (ao:Option Addr) (xs:List Hol) (cap b o:Nat) (h e d:Int) (w:World) (H:Hols w ao xs cap b o) :
  Calls Tryz.prog 111 #[.slice ao xs.length cap,.int .i64 h,.int .i64 e,.int .i64 d] w fun en w'=>en=.returned (.int .i64 (atH xs h e d))∧Keeps w w':=
 (callsIn_wide (n:=4)).1 (at_in Fence.wide 4 trivial trivial trivial rfl (by omega) ao xs cap b o h e d w H)
end Go.Proofs.YtoaidbhiciaeaaaGreat

end
section
namespace Go.Proofs.YtoaidbhiciaeaaaGreat
open Go.RowKit Go.Maps
theorem ranges_keeps {P:Program} {k:TypeId} {w w':World} {b r n:Nat} {D:DataW Value} {left:Lit→Bool} {cnt:Nat} (h:w.ranges P k hold b r n D left cnt) (hk:Keeps w w'):w'.ranges P k hold b r n D left cnt:=by
 obtain ⟨es,clock,since,seen,c0,hb,F,hs,hD,hr,rest⟩:=h
 exact ⟨es,clock,since,seen,c0,(hk.block b (Array.getElem?_eq_some_iff.1 hb).1).trans hb,F,hs,hD,(hk.block r (Array.getElem?_eq_some_iff.1 hr).1).trans hr,rest⟩
theorem hold_inv (v:Value) (y:DataW Value × List MemPlace) (_:hold v=some y):∃ c:Value,v=c:=⟨v,rfl⟩
theorem key_inv (key:Value) (kl:Lit) (h:keyOf Tryz.prog 3 key=some kl):∃ x,key=.int .i64 x:=by
 obtain ⟨x,h1,_⟩:=Maps.keyOf_int_inv Tryz.underlying3 h
 exact ⟨x,h1⟩
structure TotI (l:List Hol) (e d:Int) (S:Int) (left:Lit→Bool):Prop where
 sum:S=doneAt l e d (firstsH l) left
 keys:∀ x,I64 x→left (.int .i64 x)=true→x∈firstsH l
set_option maxRecDepth 100000 in
theorem total_any (ao:Option Addr) (l:List Hol) (cap b o:Nat) (e d:Int) (w:World) (H:Hols w ao l cap b o) (hl:l.length≤1000) (hb:ShB l) (h64:∀ x∈l,I64 x.holder) :
  Calls Tryz.prog 68 #[.slice ao l.length cap,.int .i64 e,.int .i64 d] w fun en w'=>en=.returned (.int .i64 (totH l e d))∧Keeps w w':=by
 have hcap:=Sl.cap H
 have hle:=Sl.le H
 have HH:=Lib.hid H
 have HB:=Lib.hid hb
 have H64:=Lib.hid h64
 have hmm:=@run_makeMap Tryz.prog
 have hfl:(firstsH l).length≤1000:=Nat.le_trans (firstsH_len l) hl
 clear H hb h64
 go_enter Tryz.func68,Tryz.ntmps68
 go_wp2_with fail
 go_loopw [15] (fun vi wr=>∃ k:Nat,k≤l.length∧vi=.int .i64 k∧Hid (Keeps w wr∧VMap intK wr w.heap.size k (hasH (l.take k)))) (fun vi _=>l.length - (intOf vi).toNat)
 case atStart=>exact ⟨0,Nat.zero_le _,rfl,Lib.hid ⟨(Keeps.refl w).alloc _,by rw [List.take_zero,hasH_nil];exact VMap.made intK w⟩⟩
 case round=>
  obtain ⟨k,hk,rfl,HW⟩:=hrel
  by_cases hlt:k < l.length
  ·have HL:=HH.out.keeps HW.out.1
   have hix:=Sl.at HL Tryz.underlying32 Tryz.sizeOf101 k hlt
   have c0:=HL.cell Hol.len k hlt 0 _ rfl
   have c1:=HL.cell Hol.len k hlt 1 _ rfl
   have c2:=HL.cell Hol.len k hlt 2 _ rfl
   have c3:=HL.cell Hol.len k hlt 3 _ rfl
   simp only [Nat.add_zero] at c0
   have hk64:=H64.out _ (List.getElem_mem hlt)
   have HK:=Lib.hid hk64
   clear HL hk64
   go_wp2_with (refine wpList_vstore (K:=intK) rfl _ _ _ 140 rfl Tryz.underlying140 w.heap.size k rfl (HW.out.2.alloc _) (by unfold maxLen;omega) l[k].holder HK.out rfl (.bool true) rfl (hasH (l.take (k+1))) (by rw [take_snoc _ _ hlt];exact (hasH_snoc _ _).1) (fun d _ hd=>by rw [take_snoc _ _ hlt];exact (hasH_snoc _ _).2 d hd) ?_;intro w4 hm4 hg4;have HX:Hid (Keeps w w4∧VMap intK w4 w.heap.size (k+1) (hasH (l.take (k+1)))):=Lib.hid ⟨Below.grown (HW.out.1.alloc _) hg4 (HW.out.1.alloc _).size (fun j hj=>by cases hj;exact Nat.le_refl _),hm4⟩;clear hm4 hg4)
   go_roundw
   case rel=>exact ⟨k+1,by omega,by go_num,HX⟩
   case measure=>simp [intOf];omega
  ·obtain rfl:k=l.length:=by omega
   obtain ⟨wo,rfl⟩:∃ wo:World,wo=wr:=⟨_,rfl⟩
   obtain ⟨hkw,D,hown,h2⟩:=HW.out
   rw [List.take_length] at h2
   have HD:=Lib.hid h2
   have HKW:=Lib.hid hkw
   clear h2 hkw HW
   go_wp2_with (first | (at_range;refine wpList_range_own _ rfl _ 140 rfl 3 4 intK.keyed Tryz.underlying140 hold w.heap.size l.length D rfl hown ?_;intro w0 hrg0 hg0 hs0;have HR0:=Lib.hid (And.intro hrg0 (show Keeps w w0 from Below.grown HKW.out hg0 HKW.out.size (fun j hj=>by cases hj)));clear hrg0 hg0 hs0))
   go_frame
   go_loopw [10] (fun vs wy=>∃ (S:Int) (left:Lit→Bool) (cnt:Nat),vs=.int .i64 S∧-1000000000000≤S∧S≤1000000000000∧Hid (wy.ranges Tryz.prog 3 hold w.heap.size wo.heap.size l.length D left cnt∧TotI l e d S left∧Keeps w wy)) (fun _ wy=>wy.rangeLeft w.heap.size wo.heap.size)
   case atStart=>exact ⟨0,Maps.has D,Maps.size D,rfl,by omega,by omega,Lib.hid ⟨HR0.out.1,⟨(doneAt_start (fun x hx=>by
    obtain ⟨y,hy,rfl⟩:=(firstsH_mem l x).1 hx
    have h3:=(HD.out y.holder (H64.out y hy)).1
    exact h3.trans ((hasH_some l _).2 hx))).symm,fun x hx hlx=>by
    have h3:=(HD.out x hx).1
    exact (hasH_some l x).1 (h3.symm.trans hlx)⟩,HR0.out.2⟩⟩
   case round=>
    obtain ⟨S,left,cnt,rfl,hS1,hS2,HI⟩:=hrel
    go_wp2_with (first | (at_next;refine wpList_next_ranges _ rfl _ rfl 3 intK.keyed hold (fun x:Int=>Value.int .i64 x) (fun c:Value=>c) key_inv hold_inv w.heap.size wo.heap.size l.length D left cnt rfl HI.out.1 ?_ ?_))
    ·intro hc0 hl0
     have HQ:Hid (totH l e d=S):=Lib.hid (by rw [HI.out.2.1.sum,doneAt_end hl0];rfl)
     go_wp2_with fail
     go_ret
     rw [HQ.out]
     exact ⟨rfl,HI.out.2.2⟩
    ·intro x c kl y yb w1 cnt1 hkey hlx hRc hat hrg1 hlt1 hg1 hs1 hen
     obtain ⟨x',e1,rfl,hwf⟩:=Maps.keyOf_int_inv Tryz.underlying3 hkey
     obtain rfl:x=x':=by simpa using e1
     have hx64:=wf64.1 hwf
     have hxm:=HI.out.2.1.keys x hx64 hlx
     have hstep:=doneAt_step (l:=l) (e:=e) (d:=d) hlx (firstsH_nodup l) hxm
     rw [← HI.out.2.1.sum] at hstep
     have hbd:=doneAt_bd HB.out e d (firstsH l) (fun z=>left z && !z.sameKey (.int .i64 x))
     rw [hstep] at hbd
     have hS3:-1000000000000≤S+atH l x e d:=by omega
     have hS4:S+atH l x e d≤1000000000000:=by omega
     have HST:=Lib.hid hstep
     have hk1:Keeps w w1:=Below.grown HI.out.2.2 hg1 HI.out.2.2.size (fun j hj=>by cases hj;exact Nat.le_trans HKW.out.size (Nat.le_refl _))
     have HK1:=Lib.hid hk1
     have HRG:=Lib.hid hrg1
     have HLT:=Lib.hid hlt1
     have hab:=atH_bd HB.out x e d
     obtain ⟨ha1,ha2⟩:=hab
     clear hkey hlx hRc hat hrg1 hlt1 hg1 hs1 hwf hx64 hxm hstep hbd hk1 e1
     go_wp2_with (first | (go_at_call 111;refine (hat_any ao l cap b o x e d _ (HH.out.keeps HK1.out)).mono ?_;rintro en w2 ⟨rfl,hk2⟩;have HK2:=Lib.hid hk2;clear hk2))
     go_roundw
     case rel=>exact ⟨_,_,cnt1,rfl,by omega,by omega,Lib.hid ⟨ranges_keeps HRG.out HK2.out,⟨HST.out.symm,fun z hz hlz=>HI.out.2.1.keys z hz (by
      simp only [Bool.and_eq_true] at hlz;exact hlz.1)⟩,HK1.out.trans HK2.out⟩⟩
     case measure=>
      rw [(ranges_keeps HRG.out HK2.out).left_eq,HI.out.1.left_eq];exact HLT.out
end Go.Proofs.YtoaidbhiciaeaaaGreat

end
