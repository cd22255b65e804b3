/- Walks and plain facts that the claim rests on (SamP, RRem). No condition. -/
import Derived.Test.YtoaidbhiciaeaaaGreatPo41
import Derived.Deep.RegionHeld3
import Derived.Deep.QuietTactic
import Derived.BigQuiet
import Derived.Laws.StructEq
import Derived.Test.YtoaidbhiciaeaaaGreatPo39
set_option linter.unusedSimpArgs false
set_option linter.unusedVariables false
set_option maxHeartbeats 16000000
section
namespace Go.Proofs.YtoaidbhiciaeaaaGreat
open Go.RowKit
theorem neqPrt (a b:Int) (w:World):(binOp .neq 63 (.agg #[.int .i64 a,.int .i64 b]) (.agg #[.int .i64 a,.int .i64 b])).run Tryz.prog w=.ok (.bool false) w:=by
 go_simp
set_option maxRecDepth 100000 in
theorem samep_any (l:List Pst) (v1 v2:Value) (w:World) (H1:PsV w l v1) (H2:PsV w l v2) :
  Calls Tryz.prog 13 #[v1,v2] w fun e w'=>e=.returned (.bool true)∧Keeps w w':=by
 obtain ⟨ls1,ao1,cap1,b1,rfl,hr1,hi1,he1⟩:=H1
 obtain ⟨ls2,ao2,cap2,b2,rfl,hr2,hi2,he2⟩:=H2
 have hl1:ls1.length=l.length:=by rw [← he1,List.length_map]
 have hl2:ls2.length=l.length:=by rw [← he2,List.length_map]
 have hc1:=Sl.cap hr1
 have hc2:=Sl.cap hr2
 have hn1:=Sl.le hr1
 have hn2:=Sl.le hr2
 rw [hl1] at hn1
 rw [hl2] at hn2
 rw [hl1,hl2]
 have HL1:=Lib.hid hl1
 have HL2:=Lib.hid hl2
 have HR1:=Lib.hid hr1
 have HR2:=Lib.hid hr2
 have HI1:=Lib.hid hi1
 have HI2:=Lib.hid hi2
 have HE1:=Lib.hid he1
 have HE2:=Lib.hid he2
 have hneq:=neqPrt
 clear hl1 hl2 hr1 hr2 hi1 hi2 he1 he2
 go_enter Tryz.func13,Tryz.ntmps13
 go_wp2_with fail
 go_loopw [5] (fun vi wr=>∃ k:Nat,k≤l.length∧vi=.int .i64 k∧Hid (Keeps w wr)) (fun vi _=>l.length - (intOf vi).toNat)
 case atStart=>exact ⟨0,Nat.zero_le _,rfl,Lib.hid (Keeps.refl _)⟩
 case round=>
  obtain ⟨k,hk,rfl,HW⟩:=hrel
  by_cases hlt:k < l.length
  ·have hk1:k < ls1.length:=by rw [HL1.out];exact hlt
   have hk2:k < ls2.length:=by rw [HL2.out];exact hlt
   have h1:=HR1.out.keeps HW.out
   have h2:=HR2.out.keeps HW.out
   have hix:=Sl.at h1 Tryz.underlying40 Tryz.sizeOf59 k hk1
   have hix2:=Sl.at h2 Tryz.underlying40 Tryz.sizeOf59 k hk2
   rw [HL1.out] at hix
   rw [HL2.out] at hix2
   obtain ⟨y1,hy1⟩:∃ y,ls1[k]=y:=⟨_,rfl⟩
   obtain ⟨y2,hy2⟩:∃ y,ls2[k]=y:=⟨_,rfl⟩
   have hx12:y1.x=y2.x:=by
    have e1:(ls1.map PV.x)[k]?=some y1.x:=by rw [List.getElem?_map,List.getElem?_eq_getElem hk1,hy1];rfl
    have e2:(ls2.map PV.x)[k]?=some y2.x:=by rw [List.getElem?_map,List.getElem?_eq_getElem hk2,hy2];rfl
    rw [HE1.out] at e1
    rw [HE2.out,e1] at e2
    exact Option.some.inj e2
   have hq1:=HI1.out y1 (by rw [← hy1];exact List.getElem_mem ..)
   have hq2:=HI2.out y2 (by rw [← hy2];exact List.getElem_mem ..)
   obtain ⟨x,a1,c1,bb1⟩:=y1
   obtain ⟨x2,a2,c2,bb2⟩:=y2
   simp only at hx12
   subst hx12
   have p0:=h1.cell PV.len k hk1 0 (.int .i64 x.kind) (by rw [hy1];rfl)
   have p1:=h1.cell PV.len k hk1 1 (.int .i64 x.ent) (by rw [hy1];rfl)
   have p2:=h1.cell PV.len k hk1 2 (.int .i64 x.oth) (by rw [hy1];rfl)
   have p3:=h1.cell PV.len k hk1 3 (.int .i64 x.rul) (by rw [hy1];rfl)
   have p4:=h1.cell PV.len k hk1 4 (.slice a1 x.parts.length c1) (by rw [hy1];rfl)
   have r0:=h2.cell PV.len k hk2 0 (.int .i64 x.kind) (by rw [hy2];rfl)
   have r1:=h2.cell PV.len k hk2 1 (.int .i64 x.ent) (by rw [hy2];rfl)
   have r2:=h2.cell PV.len k hk2 2 (.int .i64 x.oth) (by rw [hy2];rfl)
   have r3:=h2.cell PV.len k hk2 3 (.int .i64 x.rul) (by rw [hy2];rfl)
   have r4:=h2.cell PV.len k hk2 4 (.slice a2 x.parts.length c2) (by rw [hy2];rfl)
   simp only [Nat.zero_add,Nat.add_zero] at p0 p1 p2 p3 p4 r0 r1 r2 r3 r4 hix hix2
   have HKS:Hid (∀ W,Keeps wr W→W.cell? ⟨b1,k * 5,none⟩=some (.int .i64 x.kind)∧W.cell? ⟨b1,k * 5+1,none⟩=some (.int .i64 x.ent)∧W.cell? ⟨b1,k * 5+2,none⟩=some (.int .i64 x.oth)∧W.cell? ⟨b1,k * 5+3,none⟩=some (.int .i64 x.rul)∧W.cell? ⟨b1,k * 5+4,none⟩=some (.slice a1 x.parts.length c1)∧W.cell? ⟨b2,k * 5,none⟩=some (.int .i64 x.kind)∧W.cell? ⟨b2,k * 5+1,none⟩=some (.int .i64 x.ent)∧W.cell? ⟨b2,k * 5+2,none⟩=some (.int .i64 x.oth)∧W.cell? ⟨b2,k * 5+3,none⟩=some (.int .i64 x.rul)∧W.cell? ⟨b2,k * 5+4,none⟩=some (.slice a2 x.parts.length c2)):=Lib.hid (fun W hW=>⟨hW.cell p0,hW.cell p1,hW.cell p2,hW.cell p3,hW.cell p4,hW.cell r0,hW.cell r1,hW.cell r2,hW.cell r3,hW.cell r4⟩)
   have HQ1:Hid (Recs w 2 Prt.cells a1 x.parts c1 bb1 0):=Lib.hid hq1
   have HQ2:Hid (Recs w 2 Prt.cells a2 x.parts c2 bb2 0):=Lib.hid hq2
   clear h1 h2 hy1 hy2 hq1 hq2 p0 p1 p2 p3 p4 r0 r1 r2 r3 r4 hk1 hk2
   go_upto_region 6 with fail
   go_cut [6,7] from 20 to 27 (fun v6 v7 W=>∃ g6 g7:Nat,v6=.pointer (some ⟨g6,0,none⟩)∧v7=.pointer (some ⟨g7,0,none⟩)∧Hid (Keeps wr W∧(W.cell? ⟨g6,0,none⟩=some (.int .i64 x.kind)∧W.cell? ⟨g6,1,none⟩=some (.int .i64 x.ent)∧W.cell? ⟨g6,2,none⟩=some (.int .i64 x.oth)∧W.cell? ⟨g6,3,none⟩=some (.int .i64 x.rul)∧W.cell? ⟨g6,4,none⟩=some (.slice a1 x.parts.length c1))∧(W.cell? ⟨g7,0,none⟩=some (.int .i64 x.kind)∧W.cell? ⟨g7,1,none⟩=some (.int .i64 x.ent)∧W.cell? ⟨g7,2,none⟩=some (.int .i64 x.oth)∧W.cell? ⟨g7,3,none⟩=some (.int .i64 x.rul)∧W.cell? ⟨g7,4,none⟩=some (.slice a2 x.parts.length c2))))
   case first=>
    go_region_held3 (fun W=>W.cell? ⟨b1,k * 5,none⟩=some (.int .i64 x.kind)∧W.cell? ⟨b1,k * 5+1,none⟩=some (.int .i64 x.ent)∧W.cell? ⟨b1,k * 5+2,none⟩=some (.int .i64 x.oth)∧W.cell? ⟨b1,k * 5+3,none⟩=some (.int .i64 x.rul)∧W.cell? ⟨b1,k * 5+4,none⟩=some (.slice a1 x.parts.length c1)∧W.cell? ⟨b2,k * 5,none⟩=some (.int .i64 x.kind)∧W.cell? ⟨b2,k * 5+1,none⟩=some (.int .i64 x.ent)∧W.cell? ⟨b2,k * 5+2,none⟩=some (.int .i64 x.oth)∧W.cell? ⟨b2,k * 5+3,none⟩=some (.int .i64 x.rul)∧W.cell? ⟨b2,k * 5+4,none⟩=some (.slice a2 x.parts.length c2)) (first | exact HKS.out _ (Keeps.refl _).drew | exact HKS.out _ ((Keeps.refl _).drew.alloc _) | exact HKS.out _ (((Keeps.refl _).drew.alloc _).alloc _)) (fail)
    all_goals (go_wp2_with fail;go_meet;refine ⟨_,_,rfl,rfl,Lib.hid ⟨((Keeps.refl wr).drew.alloc _).alloc _,⟨?_,?_,?_,?_,?_⟩,?_,?_,?_,?_,?_⟩⟩ <;> go_simp)
   case rest=>
    obtain ⟨g6,g7,rfl,rfl,HC⟩:=hcut
    obtain ⟨_,⟨s0,s1,s2,s3,s4⟩,t0,t1,t2,t3,t4⟩:=HC.out
    have HKC:=Lib.hid (HW.out.trans HC.out.1)
    have hcA:=Sl.cap HQ1.out
    have hcB:=Sl.cap HQ2.out
    have hnA:=Sl.le HQ1.out
    have hnB:=Sl.le HQ2.out
    clear HC
    go_wp2_with fail
    go_loopw [8] (fun vi wx=>∃ j q:Nat,j≤x.parts.length∧vi=.int .i64 j∧wx=wc.drewN q) (fun vi _=>x.parts.length - (intOf vi).toNat)
    case atStart=>exact ⟨0,0,Nat.zero_le _,rfl,rfl⟩
    case round=>
     obtain ⟨j,q,hj,rfl,rfl⟩:=hrel
     by_cases hjl:j < x.parts.length
     ·have hA:=HQ1.out.keeps HKC.out
      have hB:=HQ2.out.keeps HKC.out
      have hiA:=Sl.at hA Tryz.underlying57 Tryz.sizeOf63 j hjl
      have hiB:=Sl.at hB Tryz.underlying57 Tryz.sizeOf63 j hjl
      have u0:=hA.cell Prt.len j hjl 0 _ rfl
      have u1:=hA.cell Prt.len j hjl 1 _ rfl
      have z0:=hB.cell Prt.len j hjl 0 _ rfl
      have z1:=hB.cell Prt.len j hjl 1 _ rfl
      simp only [Nat.add_zero,Nat.zero_add] at u0 u1 z0 z1 hiA hiB
      clear hA hB
      go_wp2_with fail
      go_quiet (fail)
      go_wp2_with fail
      go_roundw
      case rel=>exact ⟨j+1,_,by omega,by go_num,rfl⟩
      case measure=>simp [intOf];omega
     ·go_wp2_with fail
      go_roundw
      case rel=>exact ⟨k+1,by omega,by go_num,Lib.hid (HKC.out.drewN _)⟩
      case measure=>simp [intOf];omega
  ·go_wp2_with fail
   go_ret
   exact ⟨rfl,HW.out⟩
end Go.Proofs.YtoaidbhiciaeaaaGreat

end
section
namespace Go.Proofs.YtoaidbhiciaeaaaGreat
open Go.RowKit
set_option maxRecDepth 100000 in
theorem rrem_any (bv:List Value) (g:Grp) (es:List JV) (hs:List Hol) (ms:List MV) (p:Int) (own:List Itm) (ao:Option Addr) (cap bo oo:Nat) (w:World) (H:BkG w bv g es hs ms) (HR:Recs w 7 Itm.cells ao own cap bo oo) (hn:own.length≤800) (hA:∀ x∈own,x.OkA) :
  Calls Tryz.prog 30 #[.agg bv.toArray,.slice ao own.length cap,.int .i64 p] w fun e w'=>e=.returned (.tuple #[.int .i64 (totS own),.int .i64 (remA g (dayA g p) own)])∧Keeps w w':=by
 obtain ⟨aoC,capC,bC,oC,aoE,capE,bE,oE,hgc,_,_⟩:=H.grp
 obtain ⟨a,ha⟩:∃ a,dayA g p=a:=⟨_,rfl⟩
 obtain ⟨be,hbe⟩:∃ q,(yrF g.y g.m g.n p).2=q:=⟨_,rfl⟩
 have HBE:Hid (∀ W,Calls Tryz.prog 53 #[.agg #[.int .i64 g.y,.int .i64 g.m,.int .i64 g.n],.int .i64 p] W fun r w'=>r=.returned (.tuple #[.int .i64 a,.int .i64 be])∧Keeps W w'):=Lib.hid (fun W=>by
  have:=yrR_any g.y g.m g.n p W
  rw [← ha,← hbe]
  exact this)
 rw [ha]
 have hrg:=box_range w bv 36
 have hk0:Keeps w (w.alloc (.cells bv.toArray 36)):=(Keeps.refl w).alloc _
 obtain ⟨W1,hW1⟩:∃ W1,w.alloc (.cells bv.toArray 36)=W1:=⟨_,rfl⟩
 rw [hW1] at hrg hk0
 have HK0:=Lib.hid hk0
 have HG:Hid (∀ W,Keeps W1 W→W.cell? ⟨w.heap.size,11,none⟩=some (.int .i64 g.rl.r6)∧W.cell? ⟨w.heap.size,18,none⟩=some (.int .i64 g.rl.r13)):=Lib.hid (fun W hW=>by
  have q1:=range_keeps hrg hW 11 _ (hgc 11 _ rfl)
  have q2:=range_keeps hrg hW 18 _ (hgc 18 _ rfl)
  simp only [Nat.zero_add] at q1 q2
  exact ⟨q1,q2⟩)
 have g1:=hrg 1 _ (hgc 1 _ rfl)
 have g2:=hrg 2 _ (hgc 2 _ rfl)
 have g3:=hrg 3 _ (hgc 3 _ rfl)
 simp only [Nat.zero_add] at g1 g2 g3
 have HHR:=Lib.hid HR
 have HAA:=Lib.hid hA
 have hcap:=Sl.cap HR
 have hle:=Sl.le HR
 clear H HR hA hgc hk0 hrg ha hbe
 go_enter Tryz.func30,Tryz.ntmps30
 go_upto_region 1 with fail
 try rw [hW1]
 clear hW1
 go_upto_region 2 with (go_at_call 53;(refine (HBE.out _).mono ?_);rintro e1 w1 ⟨rfl,hk1⟩;have K1:Hid (Keeps W1 w1):=Lib.hid hk1;clear g1 g2 g3;obtain ⟨f11,f18⟩:=HG.out _ hk1;have hzb:=World.block_lt_of_cell? _ _ f11;clear hk1)
 go_quiet (fail)
 go_wp2_with fail
 go_loopw [10,11,12] (fun vs va vi wr=>∃ k:Nat,k≤own.length∧vi=.int .i64 k∧vs=.int .i64 (totS (own.take k))∧va=.int .i64 (remA g a (own.take k))∧Hid (Keeps W1 wr)) (fun _ _ vi _=>own.length - (intOf vi).toNat)
 case atStart=>exact ⟨0,Nat.zero_le _,rfl,by rw [List.take_zero];rfl,by rw [List.take_zero];rfl,Lib.hid (K1.out.drewN _)⟩
 case round=>
  obtain ⟨k,hk,rfl,rfl,rfl,HW⟩:=hrel
  by_cases hlt:k < own.length
  ·have hr:=HHR.out.keeps (HK0.out.trans HW.out)
   have hix:=Sl.at hr Tryz.underlying37 Tryz.sizeOf53 k hlt
   obtain ⟨x,hx⟩:∃ x,own[k]=x:=⟨_,rfl⟩
   have c5:=hr.cell Itm.len k hlt 5 (.int .i64 x.date) (by rw [hx];rfl)
   have c6:=hr.cell Itm.len k hlt 6 (.int .i64 x.amt) (by rw [hx];rfl)
   have hT1:=totS_small (l:=own.take k) (fun q hq=>HAA.out q (List.mem_of_mem_take hq)) (by rw [List.length_take];omega)
   have hxa:=HAA.out x (by rw [← hx];exact List.getElem_mem ..)
   have hxb:=hxa.2
   have HT:Hid (totS (own.take k)+x.amt=totS (own.take (k+1))):=Lib.hid (by rw [take_snoc _ _ hlt,hx,totS_snoc])
   have HR:Hid (remA g a (own.take (k+1))=if a≤x.date then g.rl.r13 else remA g a (own.take k)):=Lib.hid (by rw [take_snoc _ _ hlt,hx,remA_snoc])
   obtain ⟨T,hT⟩:∃ T,totS (own.take k)=T:=⟨_,rfl⟩
   obtain ⟨ra,hra⟩:∃ ra,remA g a (own.take k)=ra:=⟨_,rfl⟩
   rw [hT] at hT1 HT ⊢
   rw [hra] at HR ⊢
   have hw1:wrap64 (T+x.amt)=T+x.amt:=IntWalk.wrap64_in _ (by omega)
   have hw2:IntKind.i64.wrap (T+x.amt)=T+x.amt:=IntWalk.i64_in _ (by omega)
   obtain ⟨f11,f18⟩:=HG.out _ HW.out
   have hzf:=World.block_lt_of_cell? _ _ f18
   simp only at hzf
   clear hr hx hT hra hT1 hxa hxb
   by_cases hd:a≤x.date
   ·have e1:decide (a≤x.date)=true:=decide_eq_true hd
    have HR2:=Lib.hid (HR.out.trans (if_pos hd))
    clear hd
    go_wp2_with fail
    go_roundw
    case rel=>exact ⟨k+1,by omega,by go_num,by rw [HT.out],by rw [HR2.out],HW⟩
    case measure=>simp [intOf];omega
   ·have e1:decide (a≤x.date)=false:=decide_eq_false hd
    have HR2:=Lib.hid (HR.out.trans (if_neg hd))
    clear hd
    go_wp2_with fail
    go_roundw
    case rel=>exact ⟨k+1,by omega,by go_num,by rw [HT.out],by rw [HR2.out],HW⟩
    case measure=>simp [intOf];omega
  ·obtain rfl:k=own.length:=by omega
   go_wp2_with fail
   refine bodyPost_ret (results_tmp2 rfl _ _ _) rfl ?_
   rw [List.take_length]
   exact ⟨rfl,HK0.out.trans HW.out⟩
end Go.Proofs.YtoaidbhiciaeaaaGreat

end
