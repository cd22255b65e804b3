/- Walks and plain facts that the claim rests on (ISum). No condition. -/
import Derived.Test.YtoaidbhiciaeaaaGreatPo48
import Derived.Test.YtoaidbhiciaeaaaGreatPo41
import Derived.Test.YtoaidbhiciaeaaaGreatUn0
import Derived.Test.YtoaidbhiciaeaaaGreatUn0n
set_option linter.unusedSimpArgs false
set_option linter.unusedVariables false
set_option maxHeartbeats 16000000
section
namespace Go.Proofs.YtoaidbhiciaeaaaGreat
open Go.RowKit
def Prt.OkA (x:Prt):Prop:=-1000000000000≤x.amt∧x.amt≤1000000000000
theorem prtS_small (c:Int):∀ {l:List Prt},(∀ x∈l,x.OkA)→-(1000000000000 * (l.length:Int))≤prtS l c∧prtS l c≤1000000000000 * (l.length:Int)
 | [],_=>by simp [prtS]
 | x :: t,h=>by
  have h1:=prtS_small c (l:=t) (fun y hy=>h y (List.mem_cons_of_mem _ hy))
  have h2:=h x (List.mem_cons_self ..)
  unfold Prt.OkA at h2
  unfold prtS
  simp only [List.length_cons]
  split <;> omega
theorem prtT_small:∀ {l:List Prt},(∀ x∈l,x.OkA)→-(1000000000000 * (l.length:Int))≤prtT l∧prtT l≤1000000000000 * (l.length:Int)
 | [],_=>by simp [prtT]
 | x :: t,h=>by
  have h1:=prtT_small (l:=t) (fun y hy=>h y (List.mem_cons_of_mem _ hy))
  have h2:=h x (List.mem_cons_self ..)
  unfold Prt.OkA at h2
  unfold prtT
  simp only [List.length_cons]
  omega
theorem prtS_nil (c:Int):prtS [] c=0:=rfl
set_option maxRecDepth 100000 in
theorem rsum_any (own:List Itm) (parts:List Prt) (c:Int) (ao:Option Addr) (cap bo:Nat) (ap:Option Addr) (cp bp:Nat) (w:World) (HR:Recs w 7 Itm.cells ao own cap bo 0) (HP:Recs w 2 Prt.cells ap parts cp bp 0) (hn:own.length≤800) (hA:∀ x∈own,x.OkA) (hm:parts.length≤1000) (hB:∀ x∈parts,x.OkA) :
  Calls Tryz.prog 17 #[.slice ao own.length cap,.slice ap parts.length cp,.int .i64 c] w fun e w'=>e=.returned (.int .i64 (accS own c+prtS parts c))∧w=w':=by
 have hcap:=Sl.cap HR
 have hle:=Sl.le HR
 have hcap2:=Sl.cap HP
 have hle2:=Sl.le HP
 have HRR:=Lib.hid HR
 have HPP:=Lib.hid HP
 have HAA:=Lib.hid hA
 have HBB:=Lib.hid hB
 have HT0:=Lib.hid (accS_small (l:=own) c hA (by omega))
 clear HR HP hA hB
 go_enter Tryz.func17,Tryz.ntmps17
 go_wp2_with fail
 go_loopw [7,8] (fun vs vi wr=>∃ k:Nat,k≤own.length∧vi=.int .i64 k∧vs=.int .i64 (accS (own.take k) c)∧w=wr) (fun _ vi _=>own.length - (intOf vi).toNat)
 case atStart=>exact ⟨0,Nat.zero_le _,rfl,by rw [List.take_zero];rfl,rfl⟩
 case round=>
  obtain ⟨k,hk,rfl,rfl,rfl⟩:=hrel
  by_cases hlt:k < own.length
  ·have hix:=Sl.at HRR.out Tryz.underlying37 Tryz.sizeOf53 k hlt
   obtain ⟨x,hx⟩:∃ x,own[k]=x:=⟨_,rfl⟩
   have c3:=HRR.out.cell Itm.len k hlt 3 (.int .i64 x.acc) (by rw [hx];rfl)
   have c6:=HRR.out.cell Itm.len k hlt 6 (.int .i64 x.amt) (by rw [hx];rfl)
   simp only [Nat.add_zero,Nat.zero_add] at c3 c6 hix
   have hT1:=accS_small (l:=own.take k) c (fun q hq=>HAA.out q (List.mem_of_mem_take hq)) (by rw [List.length_take];omega)
   have hxb:=(HAA.out x (by rw [← hx];exact List.getElem_mem ..)).2
   have HT:Hid (accS (own.take (k+1)) c=accS (own.take k) c+if x.acc=c then x.amt else 0):=Lib.hid (by rw [take_snoc _ _ hlt,hx,accS_snoc])
   obtain ⟨T,hT⟩:∃ T,accS (own.take k) c=T:=⟨_,rfl⟩
   rw [hT] at hT1 HT ⊢
   clear hx hT
   by_cases hd:x.acc=c
   ·have e1:(x.acc == c)=true:=by simpa using hd
    have hw1:wrap64 (T+x.amt)=T+x.amt:=IntWalk.wrap64_in _ (by omega)
    have hw2:IntKind.i64.wrap (T+x.amt)=T+x.amt:=IntWalk.i64_in _ (by omega)
    have HT2:=Lib.hid (HT.out.trans (by rw [if_pos hd]))
    clear hd hT1 hxb
    go_wp2_with fail
    go_roundw
    case rel=>exact ⟨k+1,by omega,by go_num,by rw [HT2.out],trivial⟩
    case measure=>simp [intOf];omega
   ·have e1:(x.acc == c)=false:=by simpa using hd
    have HT2:Hid (accS (own.take (k+1)) c=T):=Lib.hid (HT.out.trans (by rw [if_neg hd,Int.add_zero]))
    clear hd hT1 hxb
    go_wp2_with fail
    go_roundw
    case rel=>exact ⟨k+1,by omega,by go_num,by rw [HT2.out],trivial⟩
    case measure=>simp [intOf];omega
  ·obtain rfl:k=own.length:=by omega
   rw [List.take_length]
   obtain ⟨T0,hT0⟩:∃ T,accS own c=T:=⟨_,rfl⟩
   have ht0:=HT0.out
   rw [hT0] at ht0 ⊢
   have HTT:=Lib.hid ht0
   have HTE:=Lib.hid hT0
   clear hT0 ht0 HT0
   go_wp2_with fail
   go_loopw [7,9] (fun vs vi wr=>∃ k:Nat,k≤parts.length∧vi=.int .i64 k∧vs=.int .i64 (T0+prtS (parts.take k) c)∧w=wr) (fun _ vi _=>parts.length - (intOf vi).toNat)
   case atStart=>exact ⟨0,Nat.zero_le _,rfl,by rw [List.take_zero,prtS_nil,Int.add_zero],rfl⟩
   case round=>
    obtain ⟨k,hk,rfl,rfl,rfl⟩:=hrel
    by_cases hlt:k < parts.length
    ·have hix:=Sl.at HPP.out Tryz.underlying57 Tryz.sizeOf63 k hlt
     obtain ⟨x,hx⟩:∃ x,parts[k]=x:=⟨_,rfl⟩
     have c0:=HPP.out.cell Prt.len k hlt 0 (.int .i64 x.acc) (by rw [hx];rfl)
     have c1:=HPP.out.cell Prt.len k hlt 1 (.int .i64 x.amt) (by rw [hx];rfl)
     simp only [Nat.add_zero,Nat.zero_add] at c0 c1 hix
     have hT1:=prtS_small c (l:=parts.take k) (fun q hq=>HBB.out q (List.mem_of_mem_take hq))
     rw [List.length_take,Nat.min_eq_left hk] at hT1
     have hxb:=HBB.out x (by rw [← hx];exact List.getElem_mem ..)
     unfold Prt.OkA at hxb
     have htt:=HTT.out
     have HT:Hid (prtS (parts.take (k+1)) c=prtS (parts.take k) c+if x.acc=c then x.amt else 0):=Lib.hid (by rw [take_snoc _ _ hlt,hx,prtS_snoc])
     obtain ⟨T,hT⟩:∃ T,prtS (parts.take k) c=T:=⟨_,rfl⟩
     rw [hT] at hT1 HT ⊢
     clear hx hT
     by_cases hd:x.acc=c
     ·have e1:(x.acc == c)=true:=by simpa using hd
      have hw1:wrap64 (T0+T+x.amt)=T0+T+x.amt:=IntWalk.wrap64_in _ (by omega)
      have hw2:IntKind.i64.wrap (T0+T+x.amt)=T0+T+x.amt:=IntWalk.i64_in _ (by omega)
      have HT2:Hid (T0+prtS (parts.take (k+1)) c=T0+T+x.amt):=Lib.hid (by rw [HT.out,if_pos hd];omega)
      clear hd hT1 hxb htt
      go_wp2_with fail
      go_roundw
      case rel=>exact ⟨k+1,by omega,by go_num,by rw [HT2.out],trivial⟩
      case measure=>simp [intOf];omega
     ·have e1:(x.acc == c)=false:=by simpa using hd
      have HT2:Hid (T0+prtS (parts.take (k+1)) c=T0+T):=Lib.hid (by rw [HT.out,if_neg hd];omega)
      clear hd hT1 hxb htt
      go_wp2_with fail
      go_roundw
      case rel=>exact ⟨k+1,by omega,by go_num,by rw [HT2.out],trivial⟩
      case measure=>simp [intOf];omega
    ·obtain rfl:k=parts.length:=by omega
     rw [List.take_length]
     go_wp2_with fail
     go_ret
     exact ⟨by rw [HTE.out];rfl,rfl⟩
theorem ritemsR_any (bv:List Value) (g:Grp) (es:List JV) (hs:List Hol) (ms:List MV) (items:List Itm) (p:Int) (m:Mt) (ao:Option Addr) (cap bI oI:Nat) (aoL:Option Addr) (capL bL oL:Nat) (aoR:Option Addr) (capR bR oR:Nat) (w:World) (H:BkG w bv g es hs ms) (SM:SmallB g es hs ms items)
  (HI:Recs w 7 Itm.cells ao items cap bI oI) (HL:Recs w 2 Rf.cells aoL m.left capL bL oL) (HR:Recs w 2 Rf.cells aoR m.right capR bR oR) (h1:m.left.length≤400) (h2:m.right.length≤400) :
  Calls Tryz.prog 15 #[.agg bv.toArray,.slice ao items.length cap,.agg #[.int .i64 m.id,.slice aoL m.left.length capL,.slice aoR m.right.length capR,.int .i64 m.state],.int .i64 p] w fun e w'=>∃ a c b,e=.returned (.tuple #[.slice a (itemsR g es hs items p m).1.length c,.bool (itemsR g es hs items p m).2])∧Recs w' 7 Itm.cells a (itemsR g es hs items p m).1 c b 0∧Keeps w w':=by
 refine (ritems_any bv g es hs ms items p m ao cap bI oI aoL capL bL oL aoR capR bR oR w H SM HI HL HR h1 h2).mono ?_
 rintro e w' ⟨v,rfl,hk,ht,hf⟩
 unfold itemsR
 cases hq:eliB g es hs items (dayB g p) m with
 | true=>
  obtain ⟨a,c,b,rfl,hs⟩:=Sl.own (ht hq)
  exact ⟨a,c,b,rfl,hs,hk⟩
 | false=>
  obtain rfl:=hf hq
  exact ⟨none,0,0,rfl,Sl.nil _ _,hk⟩
theorem itemsR_facts {g:Grp} {es:List JV} {hs:List Hol} {ms:List MV} {items:List Itm} {p:Int} {m:MV} (hm:m∈ms) (h1:m.x.left.length≤400) (h2:m.x.right.length≤400) (hA:∀ x∈items,x.OkA):(itemsR g es hs items p m.x).1.length≤800∧∀ x∈(itemsR g es hs items p m.x).1,x.OkA:=by
 unfold itemsR
 cases hq:eliB g es hs items (dayB g p) m.x with
 | true=>
  have hem:eliM es items m.x∈elisS g es hs ms items p:=elisS_mem.2 ⟨m,hm,hq,rfl⟩
  refine ⟨?_,fun x hx=>hA x (own_items hem x hx)⟩
  show ((m.x.left ++ m.x.right).map (itemAt items)).length≤800
  rw [List.length_map,List.length_append];omega
 | false=>exact ⟨Nat.zero_le _,fun x hx=>absurd hx List.not_mem_nil⟩
end Go.Proofs.YtoaidbhiciaeaaaGreat

end
