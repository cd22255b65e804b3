/- Walks and plain facts that the claim rests on (ConW, MchE, MchS). No condition. -/
import Derived.Test.YtoaidbhiciaeaaaGreatPo26
import Derived.Lib.AppendZerosOnto
import Derived.WalkKit
import Derived.Lib.Walk
import Derived.Test.YtoaidbhiciaeaaaGreatPo28
import Derived.Deep.QuietTactic
import Derived.BigQuiet
set_option linter.unusedSimpArgs false
set_option linter.unusedVariables false
set_option maxHeartbeats 16000000
section
namespace Go.Proofs.YtoaidbhiciaeaaaGreat
open Go.RowKit Go.Lib
theorem elemRf:ElemOf Tryz.prog 46 51 (.agg #[.int .i64 0,.int .i64 0]) 2 16:=⟨Tryz.underlying46,by kernel_rfl,rfl,by omega⟩
theorem ones_rf (l:List Rf):∀ u∈l.flatMap Rf.cells,u.oneCell'=true:=fun u hu=>by
 obtain ⟨a,_,hu⟩:=List.mem_flatMap.1 hu
 simp [Rf.cells] at hu
 rcases hu with rfl | rfl <;> rfl
theorem infoRf:∃ i:TypeInfo,Tryz.prog.info? 51=some i∧i.zero=some (.agg #[.int .i64 0,.int .i64 0])∧i.size=2∧i.bytes=16:=by
 have h:(Tryz.prog.info? 51).map (fun i=>(i.zero,i.size,i.bytes))=some (some (.agg #[.int .i64 0,.int .i64 0]),2,16):=by kernel_rfl
 cases hi:Tryz.prog.info? 51 with
 | none=>rw [hi] at h;cases h
 | some i=>
  rw [hi] at h
  simp only [Option.map_some,Option.some.injEq,Prod.mk.injEq] at h
  exact ⟨i,rfl,h.1,h.2.1,h.2.2⟩
set_option maxRecDepth 100000 in
theorem growR_any (n:Nat) (hn:n≤1000) (w:World) :
  Calls Tryz.prog 112 #[.slice none 0 0,.int .i64 n] w fun e w'=>∃ v,e=.returned v∧w'.ownsRow w.heap.size 51 2 v 0 []∧Keeps w w':=by
 by_cases h0:n=0
 ·subst h0
  go_enter Tryz.func112,Tryz.ntmps112
  go_wp2_with fail
  go_ret
  exact ⟨_,rfl,World.ownsRow_nil _ _ _ _,Keeps.refl w⟩
 ·obtain ⟨i,hi,hz,hs,hb⟩:=infoRf
  have hold:(Builtin.firstCells i.size 0 (.slice none 0 0)).run Tryz.prog w.drew=.ok (([]:List Value).toArray) w.drew:=run_firstCells_none w.drew i.size 0 0 0
  have hrz:∀ ty,(Builtin.append_ #[46,3] ty #[.slice none 0 0,.int .i64 (n:Int)]).run Tryz.prog w =
    .ok (.slice (some ⟨w.heap.size,0,none⟩) n (grownCap w n 0 51)) (w.drew.alloc (.cells ((([]:List Value).toArray) ++ Builtin.zeroCells (Value.agg #[.int .i64 0,.int .i64 0]).cells n ++ Builtin.zeroCells (Value.agg #[.int .i64 0,.int .i64 0]).cells (grownCap w n 0 51 - n)) 51)):=fun ty=>by
   have h:=Lib.run_append_grow_zeros w 46 3 ty 51 i _ .i64 .i64 Tryz.underlying46 Tryz.underlying3 hi hz none 0 0 [] hold n (by omega) (by omega) (by omega) (by omega) (by rw [hb];omega) (growslice_fits (by omega) (by rw [hb];omega))
   rw [Nat.zero_add] at h
   exact h
  have hGn:n≤grownCap w n 0 51:=grownCap_ge w _ _ _
  have hG63:=grownCap_le_maxLen w n 0 51 (by unfold maxLen;omega)
  obtain ⟨G,hG⟩:∃ G,grownCap w n 0 51=G:=⟨_,rfl⟩
  rw [hG] at hrz hGn hG63
  obtain ⟨C,hC⟩:∃ C,(([]:List Value).toArray) ++ Builtin.zeroCells (Value.agg #[.int .i64 0,.int .i64 0]).cells n ++ Builtin.zeroCells (Value.agg #[.int .i64 0,.int .i64 0]).cells (G - n)=C:=⟨_,rfl⟩
  have hCs:C.size=G * 2:=by
   rw [← hC]
   simp [Builtin.zeroCells,Value.cells]
   omega
  rw [hC] at hrz
  have HG63:=Lib.hid hG63
  have HCS:=Lib.hid hCs
  unfold maxLen at hG63
  clear hold hG hC hCs
  have h2:¬ ((n:Int) < 0):=by omega
  go_enter Tryz.func112,Tryz.ntmps112
  go_wp2_with (at_builtin;refine Lib.wpList_append_run _ rfl _ _ _ _ rfl _ _ rfl rfl _ _ (hrz _) ?_)
  all_goals (go_ret;exact ⟨_,rfl,⟨rfl,.inr ⟨w.heap.size,G,C,rfl,Nat.le_refl _,World.alloc_heap_new w.drew _,Nat.zero_le _,HG63.out,HCS.out,by simp⟩⟩,(Keeps.refl w).drew.alloc _⟩)
set_option maxRecDepth 100000 in
theorem concat_any (L R:List Rf) (aoL:Option Addr) (capL bL oL:Nat) (aoR:Option Addr) (capR bR oR:Nat) (ao:Option Addr) (cap b o:Nat) (w:World) (HL:Recs w 2 Rf.cells aoL L capL bL oL) (HR:Recs w 2 Rf.cells aoR R capR bR oR)
  (HS:Sl w 1 ao 2 cap b o [.slice aoL L.length capL,.slice aoR R.length capR]) (h1:L.length≤400) (h2:R.length≤400) :
  Calls Tryz.prog 70 #[.slice ao 2 cap] w fun e w'=>∃ v,e=.returned v∧w'.ownsRow w.heap.size 51 2 v (L ++ R).length ((L ++ R).flatMap Rf.cells)∧Keeps w w':=by
 have hi0:=HS.at1 Tryz.underlying177 Tryz.sizeOf46 0 (by omega)
 have hi1:=HS.at1 Tryz.underlying177 Tryz.sizeOf46 1 (by omega)
 have c0:=Sl.cell HS 0 _ rfl
 have c1:=Sl.cell HS 1 _ rfl
 simp only [Nat.add_zero,Int.natCast_zero,Int.natCast_one] at hi0 hi1 c0
 have hcap:=Sl.cap HS
 have HHL:=Lib.hid HL
 have HHR:=Lib.hid HR
 have HGW:Hid (∀ W,Calls Tryz.prog 112 #[.slice none 0 0,.int .i64 ((L.length:Int)+(R.length:Int))] W fun e w'=>∃ v,e=.returned v∧w'.ownsRow W.heap.size 51 2 v 0 []∧Keeps W w'):=Lib.hid (fun W=>by have:=growR_any (L.length+R.length) (by omega) W;rw [Int.natCast_add] at this;exact this)
 have HO1:=Lib.hid (ones_rf L)
 have HO2:=Lib.hid (ones_rf R)
 clear HL HR HS
 go_enter Tryz.func70,Tryz.ntmps70
 go_wp2_with fail
 go_loop [3,11] (fun s i=>(i=.int .i64 0∧s=.int .i64 0)∨(i=.int .i64 1∧s=.int .i64 (L.length:Int))∨(i=.int .i64 2∧s=.int .i64 ((L.length:Int)+(R.length:Int)))) (fun _ i=>2 - (intOf i).toNat)
 case atStart=>exact .inl ⟨rfl,rfl⟩
 case round=>
  rcases hrel with ⟨rfl,rfl⟩ | ⟨rfl,rfl⟩ | ⟨rfl,rfl⟩
  ·go_wp2_with fail
   go_round
   case rel=>exact .inr (.inl ⟨rfl,rfl⟩)
   case measure=>simp [intOf]
  ·go_wp2_with fail
   go_round
   case rel=>exact .inr (.inr ⟨rfl,rfl⟩)
   case measure=>simp [intOf]
  ·go_wp2_with (go_at_call 112;(refine (HGW.out _).mono ?_);rintro e w1 ⟨v1,rfl,ho1,hk1⟩;have HX1:=Lib.hid (And.intro ho1 hk1);clear ho1 hk1)
   go_loopw [6,27] (fun v i wr=>Hid (Keeps w wr)∧((i=.int .i64 0∧Hid (wr.ownsRow w.heap.size 51 2 v 0 []))∨(i=.int .i64 1∧Hid (wr.ownsRow w.heap.size 51 2 v L.length (L.flatMap Rf.cells)))∨(i=.int .i64 2∧Hid (wr.ownsRow w.heap.size 51 2 v (L.length+R.length) (L.flatMap Rf.cells ++ R.flatMap Rf.cells))))) (fun _ i _=>2 - (intOf i).toNat)
   case atStart=>exact ⟨Lib.hid HX1.out.2,.inl ⟨rfl,Lib.hid HX1.out.1⟩⟩
   case round=>
    obtain ⟨HK,hrel⟩:=hrel
    have d0:=HK.out.cell c0
    have d1:=HK.out.cell c1
    have hzr:=World.block_lt_of_cell? _ _ d0
    simp only at hzr
    rcases hrel with ⟨rfl,HO⟩ | ⟨rfl,HO⟩ | ⟨rfl,HO⟩
    ·go_wp2_with (at_builtin;(refine wpList_app_all elemRf rfl (.tmp 31) (.tmp 32) rfl w _ 0 [] rfl w.heap.size HO.out HK.out HK.out.size aoL L.length capL bL oL (L.flatMap Rf.cells) (by rfl) (HHL.out.keeps HK.out) HO1.out (by omega) (by omega) ?_);intro v5 w5 hown5 hb5 hsz5;rw [Nat.zero_add,List.nil_append] at hown5;have HX:=Lib.hid hown5;have HKX:Hid (Keeps w w5):=Lib.hid hb5;clear hown5 hb5)
     go_roundw
     case rel=>exact ⟨HKX,.inr (.inl ⟨rfl,HX⟩)⟩
     case measure=>simp [intOf]
    ·go_wp2_with (at_builtin;(refine wpList_app_all elemRf rfl (.tmp 31) (.tmp 32) rfl w _ L.length _ rfl w.heap.size HO.out HK.out HK.out.size aoR R.length capR bR oR (R.flatMap Rf.cells) (by rfl) (HHR.out.keeps HK.out) HO2.out (by omega) (by omega) ?_);intro v5 w5 hown5 hb5 hsz5;have HX:=Lib.hid hown5;have HKX:Hid (Keeps w w5):=Lib.hid hb5;clear hown5 hb5)
     go_roundw
     case rel=>exact ⟨HKX,.inr (.inr ⟨rfl,HX⟩)⟩
     case measure=>simp [intOf]
    ·go_wp2_with fail
     go_ret
     exact ⟨_,rfl,by rw [List.length_append,List.flatMap_append];exact HO.out,HK.out⟩
end Go.Proofs.YtoaidbhiciaeaaaGreat

end
section
namespace Go.Proofs.YtoaidbhiciaeaaaGreat
open Go.RowKit
theorem results_tmp3 {fn:Func} {t u v:Tmp} (h:fn.results=#[.tmp t,.tmp u,.tmp v]) (tmps:Array Value) (P:Program) (w:World) :
  (results fn tmps).run P w=.ok (.tuple #[tmps.getD t undef,tmps.getD u undef,tmps.getD v undef]) w:=by
 simp [results,h,Sem.run_bind,Result.andThen]
set_option maxRecDepth 100000 in
theorem entP_any (bv:List Value) (es:List JV) (ms:List MV) (L:List Rf) (ao:Option Addr) (cap b o:Nat) (w:World) (H:Bks w bv es ms) (hm:∀ e∈es,e.x.lines.length≤8) (HL:Recs w 2 Rf.cells ao L cap b o) :
  Calls Tryz.prog 116 #[.agg bv.toArray,.slice ao L.length cap] w fun e w'=>e=.returned (.tuple #[.int .i64 (entP es L).1,.int .i64 (entP es L).2.1,.bool (entP es L).2.2])∧Keeps w w':=by
 have hcap:=Sl.cap HL
 have hle:=Sl.le HL
 have HBL:=Lib.hid H.len
 have HF:Hid (∀ (r:Rf) W,Keeps w W→Calls Tryz.prog 151 #[.agg bv.toArray,.agg #[.int .i64 r.e,.int .i64 r.l]] W (EpOut W (ep es r))):=Lib.hid (fun r W hk=>epP_any bv es ms r W (H.keeps hk) hm)
 have HHL:=Lib.hid HL
 have hrg:=box_range w bv 36
 have hk0:Keeps w (w.alloc (.cells bv.toArray 36)):=(Keeps.refl w).alloc _
 obtain ⟨W1,hW1⟩:∃ W1,w.alloc (.cells bv.toArray 36)=W1:=⟨_,rfl⟩
 rw [hW1] at hrg hk0
 have HW1:=Lib.hid hk0
 have HRG:Hid (∀ W,Keeps W1 W→W.rangeAt w.heap.size 0 bv):=Lib.hid (fun W hk=>range_keeps hrg hk)
 clear H HL hrg hk0 hm
 go_enter Tryz.func116,Tryz.ntmps116
 go_wp2_with fail
 try rw [hW1]
 clear hW1
 go_loopw [7,8,16] (fun vf vp vi wr=>∃ (k:Nat) (f p:Int),k≤L.length∧vi=.int .i64 k∧vf=.int .i64 f∧vp=.int .i64 p∧Hid (∀ j (hj:j < L.length),j < k→ep es L[j]=some (f,p))∧Hid (k=0→(f,p)=(0,0))∧Hid (Keeps W1 wr)) (fun _ _ vi _=>L.length - (intOf vi).toNat)
 case atStart=>exact ⟨0,0,0,Nat.zero_le _,rfl,rfl,rfl,Lib.hid (fun j _ h=>absurd h (Nat.not_lt_zero _)),Lib.hid (fun _=>rfl),Lib.hid (Keeps.refl _)⟩
 case round=>
  obtain ⟨k,f,p,hk,rfl,rfl,rfl,HA,HZ,HW⟩:=hrel
  by_cases hlt:k < L.length
  ·have hr:=HHL.out.keeps (HW1.out.trans HW.out)
   have hix:=Sl.at hr Tryz.underlying46 Tryz.sizeOf51 k hlt
   obtain ⟨r,hrk⟩:∃ r,L[k]=r:=⟨_,rfl⟩
   have c0:=hr.cell Rf.len k hlt 0 (.int .i64 r.e) (by rw [hrk];rfl)
   have c1:=hr.cell Rf.len k hlt 1 (.int .i64 r.l) (by rw [hrk];rfl)
   rw [Nat.add_zero] at c0
   have HRK:=Lib.hid hrk
   have HF:=Lib.hid (HF.out r)
   clear hr hrk
   cases hq:ep es r with
   | none=>
    have HB:=Lib.hid (entP_bad (sideE_bad1 (es:=es) hlt (by rw [HRK.out];exact hq)))
    rw [hq] at HF
    unfold EpOut at HF
    simp only [Option.getD_none,Option.isSome_none] at HF
    clear hq
    go_upto_region 6 with (first | (refine wpList_rowG 36 _ rfl rfl w.heap.size bv _ rfl (HRG.out _ (HW.out.alloc _)) Tryz.underlying36 rfl (by rw [HBL.out];exact booksSize) ?_) | (go_at_call 151;(refine (HF.out _ (HW1.out.trans (HW.out.alloc _))).mono ?_);rintro e2 w2 ⟨c0,c2,c3,c4,s,a9,n9,cap9,l0,l1,rfl,hk2⟩;have K2:=Lib.hid ((HW.out.alloc (.cells #[.int .i64 r.e,.int .i64 r.l] 51)).trans hk2);clear hk2))
    go_wp2_with fail
    (refine bodyPost_ret (results_tmp3 rfl _ _ _) rfl ?_)
    rw [HB.out]
    exact ⟨rfl,HW1.out.trans ((K2.out.alloc _).alloc _)⟩
   | some q=>
    obtain ⟨x,y⟩:=q
    rw [hq] at HF
    unfold EpOut at HF
    simp only [Option.getD_some,Option.isSome_some] at HF
    have HQ:=Lib.hid hq
    clear hq
    have HSt:k=0∨(x=f∧y=p)→Hid (∀ j (hj:j < L.length),j < k+1→ep es L[j]=some (x,y)):=fun h=>Lib.hid (fun j hj hjk=>by
     by_cases e:j < k
     ·rcases h with h | ⟨h1,h2⟩
      ·omega
      ·rw [h1,h2];exact HA.out j hj e
     ·obtain rfl:j=k:=by omega
      rw [HRK.out];exact HQ.out)
    by_cases hk0:k=0
    ·have HS:=HSt (.inl hk0)
     have e1:decide (0 < k)=false:=decide_eq_false (by omega)
     have HK0:=Lib.hid hk0
     clear hk0 HSt
     go_upto_region 6 with (first | (refine wpList_rowG 36 _ rfl rfl w.heap.size bv _ rfl (HRG.out _ (HW.out.alloc _)) Tryz.underlying36 rfl (by rw [HBL.out];exact booksSize) ?_) | (go_at_call 151;(refine (HF.out _ (HW1.out.trans (HW.out.alloc _))).mono ?_);rintro e2 w2 ⟨c0,c2,c3,c4,s,a9,n9,cap9,l0,l1,rfl,hk2⟩;have K2:=Lib.hid ((HW.out.alloc (.cells #[.int .i64 r.e,.int .i64 r.l] 51)).trans hk2);clear hk2))
     go_wp2_with fail
     go_quiet (fail)
     go_wp2_with fail
     go_roundw
     case rel=>exact ⟨k+1,x,y,by omega,by go_num,rfl,rfl,HS,Lib.hid (fun h=>absurd h (Nat.succ_ne_zero k)),Lib.hid (((K2.out.alloc _).alloc _).drewN _)⟩
     case measure=>simp [intOf];omega
    ·have e1:decide (0 < k)=true:=decide_eq_true (by omega)
     have h0:ep es (L[0]'(by omega))=some (f,p):=HA.out 0 (by omega) (by omega)
     have HBD:(x,y)≠(f,p)→Hid (entP es L=(0,0,false)):=fun hne=>Lib.hid (entP_bad (sideE_bad2 hlt h0 (by rw [HRK.out];exact HQ.out) hne))
     clear h0 hk0
     by_cases hxf:x=f
     ·by_cases hyp:y=p
      ·have HS:=HSt (.inr ⟨hxf,hyp⟩)
       have e2:(x != f)=false:=by simp [hxf]
       have e3:(y != p)=false:=by simp [hyp]
       clear hxf hyp HSt HBD
       go_upto_region 6 with (first | (refine wpList_rowG 36 _ rfl rfl w.heap.size bv _ rfl (HRG.out _ (HW.out.alloc _)) Tryz.underlying36 rfl (by rw [HBL.out];exact booksSize) ?_) | (go_at_call 151;(refine (HF.out _ (HW1.out.trans (HW.out.alloc _))).mono ?_);rintro e2 w2 ⟨c0,c2,c3,c4,s,a9,n9,cap9,l0,l1,rfl,hk2⟩;have K2:=Lib.hid ((HW.out.alloc (.cells #[.int .i64 r.e,.int .i64 r.l] 51)).trans hk2);clear hk2))
       go_wp2_with fail
       go_quiet (fail)
       go_wp2_with fail
       go_roundw
       case rel=>exact ⟨k+1,x,y,by omega,by go_num,rfl,rfl,HS,Lib.hid (fun h=>absurd h (Nat.succ_ne_zero k)),Lib.hid (((K2.out.alloc _).alloc _).drewN _)⟩
       case measure=>simp [intOf];omega
      ·have HB:=HBD (by intro h;cases h;exact hyp rfl)
       have e2:(x != f)=false:=by simp [hxf]
       have e3:(y != p)=true:=by simpa using hyp
       clear hxf hyp HSt HBD
       go_upto_region 6 with (first | (refine wpList_rowG 36 _ rfl rfl w.heap.size bv _ rfl (HRG.out _ (HW.out.alloc _)) Tryz.underlying36 rfl (by rw [HBL.out];exact booksSize) ?_) | (go_at_call 151;(refine (HF.out _ (HW1.out.trans (HW.out.alloc _))).mono ?_);rintro e2 w2 ⟨c0,c2,c3,c4,s,a9,n9,cap9,l0,l1,rfl,hk2⟩;have K2:=Lib.hid ((HW.out.alloc (.cells #[.int .i64 r.e,.int .i64 r.l] 51)).trans hk2);clear hk2))
       go_wp2_with fail
       (refine bodyPost_ret (results_tmp3 rfl _ _ _) rfl ?_)
       rw [HB.out]
       exact ⟨rfl,HW1.out.trans ((K2.out.alloc _).alloc _)⟩
     ·have HB:=HBD (by intro h;cases h;exact hxf rfl)
      have e2:(x != f)=true:=by simpa using hxf
      clear hxf HSt HBD
      go_upto_region 6 with (first | (refine wpList_rowG 36 _ rfl rfl w.heap.size bv _ rfl (HRG.out _ (HW.out.alloc _)) Tryz.underlying36 rfl (by rw [HBL.out];exact booksSize) ?_) | (go_at_call 151;(refine (HF.out _ (HW1.out.trans (HW.out.alloc _))).mono ?_);rintro e2 w2 ⟨c0,c2,c3,c4,s,a9,n9,cap9,l0,l1,rfl,hk2⟩;have K2:=Lib.hid ((HW.out.alloc (.cells #[.int .i64 r.e,.int .i64 r.l] 51)).trans hk2);clear hk2))
      go_wp2_with fail
      (refine bodyPost_ret (results_tmp3 rfl _ _ _) rfl ?_)
      rw [HB.out]
      exact ⟨rfl,HW1.out.trans ((K2.out.alloc _).alloc _)⟩
  ·have HG:=Lib.hid (entP_good (sideE_good (es:=es) (L:=L) (x:=(f,p)) (fun j hj=>HA.out j hj (by omega)) (fun h=>HZ.out (by omega))))
   by_cases h1:1≤L.length
   ·have e1:decide ((1:Int)≤(L.length:Int))=true:=decide_eq_true (by omega)
    by_cases h2:L.length≤12
    ·have e2:decide ((L.length:Int)≤12)=true:=decide_eq_true (by omega)
     have HD:Hid (decide (1≤L.length∧L.length≤12)=true):=Lib.hid (decide_eq_true ⟨h1,h2⟩)
     clear h1 h2
     go_wp2_with fail
     (refine bodyPost_ret (results_tmp3 rfl _ _ _) rfl ?_)
     rw [HG.out,HD.out]
     exact ⟨rfl,HW1.out.trans HW.out⟩
    ·have e2:decide ((L.length:Int)≤12)=false:=decide_eq_false (by omega)
     have HD:Hid (decide (1≤L.length∧L.length≤12)=false):=Lib.hid (decide_eq_false (fun h=>h2 h.2))
     clear h1 h2
     go_wp2_with fail
     (refine bodyPost_ret (results_tmp3 rfl _ _ _) rfl ?_)
     rw [HG.out,HD.out]
     exact ⟨rfl,HW1.out.trans HW.out⟩
   ·have e1:decide ((1:Int)≤(L.length:Int))=false:=decide_eq_false (by omega)
    have HD:Hid (decide (1≤L.length∧L.length≤12)=false):=Lib.hid (decide_eq_false (fun h=>h1 h.1))
    clear h1
    go_wp2_with fail
    (refine bodyPost_ret (results_tmp3 rfl _ _ _) rfl ?_)
    rw [HG.out,HD.out]
    exact ⟨rfl,HW1.out.trans HW.out⟩
end Go.Proofs.YtoaidbhiciaeaaaGreat

end
section
namespace Go.Proofs.YtoaidbhiciaeaaaGreat
open Go.RowKit
set_option maxRecDepth 100000 in
theorem sides_any (bv:List Value) (es:List JV) (ms:List MV) (m:Mt) (aoL:Option Addr) (capL bL oL:Nat) (aoR:Option Addr) (capR bR oR:Nat) (w:World) (H:Bks w bv es ms) (hm:∀ e∈es,e.x.lines.length≤8)
  (HL:Recs w 2 Rf.cells aoL m.left capL bL oL) (HR:Recs w 2 Rf.cells aoR m.right capR bR oR) (h1:m.left.length≤400) (h2:m.right.length≤400) (hmo:m.Ok) :
  Calls Tryz.prog 76 #[.agg bv.toArray,.agg #[.int .i64 m.id,.slice aoL m.left.length capL,.slice aoR m.right.length capR,.int .i64 m.state]] w fun e w'=>e=.returned (.tuple #[.int .i64 (sidesR es m).1,.int .i64 (sidesR es m).2.1,.int .i64 (sidesR es m).2.2])∧Keeps w w':=by
 have hmm:=@run_makeMap Tryz.prog
 have HBL:=Lib.hid H.len
 have HE1:Hid (∀ W,Keeps w W→Calls Tryz.prog 116 #[.agg bv.toArray,.slice aoL m.left.length capL] W fun e w'=>e=.returned (.tuple #[.int .i64 (entP es m.left).1,.int .i64 (entP es m.left).2.1,.bool (entP es m.left).2.2])∧Keeps W w'):=Lib.hid (fun W hk=>entP_any bv es ms m.left aoL capL bL oL W (H.keeps hk) hm (HL.keeps hk))
 have HE2:Hid (∀ W,Keeps w W→Calls Tryz.prog 116 #[.agg bv.toArray,.slice aoR m.right.length capR] W fun e w'=>e=.returned (.tuple #[.int .i64 (entP es m.right).1,.int .i64 (entP es m.right).2.1,.bool (entP es m.right).2.2])∧Keeps W w'):=Lib.hid (fun W hk=>entP_any bv es ms m.right aoR capR bR oR W (H.keeps hk) hm (HR.keeps hk))
 have HCC:Hid (∀ W ao cap b o,Keeps w W→Sl W 1 ao 2 cap b o [.slice aoL m.left.length capL,.slice aoR m.right.length capR]→Calls Tryz.prog 70 #[.slice ao 2 cap] W fun e w'=>∃ v,e=.returned v∧w'.ownsRow W.heap.size 51 2 v (m.left ++ m.right).length ((m.left ++ m.right).flatMap Rf.cells)∧Keeps W w'):=Lib.hid (fun W ao cap b o hk hs=>concat_any m.left m.right aoL capL bL oL aoR capR bR oR ao cap b o W (HL.keeps hk) (HR.keeps hk) hs h1 h2)
 have hpo:pairOk es m=((entP es m.left).2.2 && ((entP es m.right).2.2 && ((entP es m.left).1 != (entP es m.right).1 && ((entP es m.left).2.1 == (entP es m.right).1 && ((entP es m.right).2.1 == (entP es m.left).1 && (decide (1≤m.state) && decide (m.state≤5))))))):=rfl
 have HG0:Hid (pairOk es m=true→(m.left ++ m.right).Nodup→sidesR es m=((entP es m.left).1,(entP es m.right).1,0)):=Lib.hid sidesR_good
 obtain ⟨⟨x,px,q1⟩,hx⟩:∃ q,entP es m.left=q:=⟨_,rfl⟩
 obtain ⟨⟨y,py,q2⟩,hy⟩:∃ q,entP es m.right=q:=⟨_,rfl⟩
 rw [hx] at HE1 hpo HG0
 rw [hy] at HE2 hpo HG0
 simp only at HE1 HE2 hpo HG0
 have HLN:Hid ((m.left ++ m.right).length≤800):=Lib.hid (by rw [List.length_append];omega)
 have HOK:Hid (∀ r∈m.left ++ m.right,r.Ok):=Lib.hid (fun r hr=>(List.mem_append.1 hr).elim (hmo.1 r) (hmo.2 r))
 have hrg:=box_range w bv 36
 have hk0:Keeps w (w.alloc (.cells bv.toArray 36)):=(Keeps.refl w).alloc _
 obtain ⟨W1,hW1⟩:∃ W1,w.alloc (.cells bv.toArray 36)=W1:=⟨_,rfl⟩
 have hz1:w.heap.size+1=W1.heap.size:=by rw [← hW1];simp
 rw [hW1] at hrg hk0
 have HW1:=Lib.hid hk0
 have HRG:Hid (∀ W,Keeps W1 W→W.rangeAt w.heap.size 0 bv):=Lib.hid (fun W hk=>range_keeps hrg hk)
 clear H HL HR hrg hk0 hx hy h1 h2 hmo
 go_enter Tryz.func76,Tryz.ntmps76;go_upto_region 1 with fail;(try rw [hW1]);(try rw [hz1]);clear hW1
 go_upto_region 3 with (first | (refine wpList_rowG 36 _ rfl rfl w.heap.size bv _ rfl (HRG.out _ ((Keeps.refl W1).alloc _)) Tryz.underlying36 rfl (by rw [HBL.out];exact booksSize) ?_) | (refine wpList_rowG 36 _ rfl rfl w.heap.size bv _ rfl (HRG.out _ (K1.out)) Tryz.underlying36 rfl (by rw [HBL.out];exact booksSize) ?_) | (go_at_call 116;guard_hyp HE1:_;(refine (HE1.out _ (HW1.out.trans ((Keeps.refl W1).alloc _))).mono ?_);rintro e1 w1 ⟨rfl,hk1⟩;have K1:=Lib.hid (((Keeps.refl W1).alloc (.cells #[.int .i64 m.id,.slice aoL m.left.length capL,.slice aoR m.right.length capR,.int .i64 m.state] 48)).trans hk1);have x1:=hk1.cell (p:=⟨W1.heap.size,1,none⟩) (v:=.slice aoL m.left.length capL) (by go_simp);have x3:=hk1.cell (p:=⟨W1.heap.size,3,none⟩) (v:=.int .i64 m.state) (by go_simp);have x2:=hk1.cell (p:=⟨W1.heap.size,2,none⟩) (v:=.slice aoR m.right.length capR) (by go_simp);have hzb:=World.block_lt_of_cell? _ _ x2;clear HE1 hk1) | (go_at_call 116;(refine (HE2.out _ (HW1.out.trans K1.out)).mono ?_);rintro e3 w3 ⟨rfl,hk3⟩;have y1:=hk3.cell x1;have y2:=hk3.cell x2;have y3:=hk3.cell x3;have hzc:=World.block_lt_of_cell? _ _ y2;have K3:=Lib.hid (K1.out.trans hk3);clear hk3 x1 x2 x3 hzb))
 by_cases hp:pairOk es m=true
 ·have HG:=Lib.hid (HG0.out hp)
  rw [hpo] at hp
  simp only [Bool.and_eq_true,decide_eq_true_eq] at hp
  obtain ⟨rfl,rfl,e1,e2,e3,hs1,hs2⟩:=hp
  have f1:(x == y)=false:=by simpa [bne] using e1
  have f2:(px != y)=false:=by simp [bne,e2]
  have f3:(py != x)=false:=by simp [bne,e3]
  have f4:decide (m.state < 1)=false:=decide_eq_false (by omega)
  have f5:decide (5 < m.state)=false:=decide_eq_false (by omega)
  clear hpo HG0 e1 e2 e3 hs1 hs2
  obtain ⟨l,hl⟩:∃ l,m.left ++ m.right=l:=⟨_,rfl⟩
  have HB2:Hid (¬ l.Nodup→sidesR es m=(0,0,1)):=Lib.hid (by rw [← hl];exact sidesR_bad2)
  rw [hl] at HCC HLN HOK HG
  clear hl
  go_wp2_with (go_at_call 70;have hlit:=Sl.lit (w3.alloc (.map #[] 0)) 1 2 [.slice aoL m.left.length capL,.slice aoR m.right.length capR] 46 rfl (by omega);rw [World.size_alloc] at hlit;(refine (HCC.out _ _ _ _ _ (HW1.out.trans ((K3.out.alloc _).alloc _)) hlit).mono ?_);rintro e5 w5 ⟨v5,rfl,ho5,hk5⟩;clear hlit;obtain ⟨ao5,cap5,b5,rfl,hs5⟩:=Sl.own ho5;have hb5:=own_block ho5 hs5;simp only [World.size_alloc] at hb5;have hcap5:=Sl.cap hs5;have hle5:=Sl.le hs5;have HS5:=Lib.hid hs5;have K5:=Lib.hid (((K3.out.alloc (.map #[] 0)).alloc (.cells #[.slice aoL m.left.length capL,.slice aoR m.right.length capR] 46)).trans hk5);have HM5:=Lib.hid (((VMap.made refK w3).alloc (.cells #[.slice aoL m.left.length capL,.slice aoR m.right.length capR] 46)).keeps hk5);have HZ5:=hk5.size;simp only [World.size_alloc] at HZ5;clear ho5 hs5 hk5)
  have hcut:w3.heap.size < w5.heap.size:=by omega
  go_loopw [71] (fun vi wr=>∃ k:Nat,k≤l.length∧vi=.int .i64 k∧Hid (∀ j (hj:j < l.length),j < k→l[j]∉l.take j)∧Hid (Keeps W1 wr∧w5.grownBy wr (some w3.heap.size)∧VMap refK wr w3.heap.size k (setM (memB (l.take k))))) (fun vi _=>l.length - (intOf vi).toNat)
  case atStart=>exact ⟨0,Nat.zero_le _,rfl,Lib.hid (fun j _ h=>absurd h (Nat.not_lt_zero _)),Lib.hid ⟨K5.out,World.grownBy.refl _ _,by rw [show setM (memB (l.take 0))=fun _=>none from by funext d;simp [setM,memB]];exact HM5.out⟩⟩
  case round=>
   obtain ⟨k,hk,rfl,HN,HW⟩:=hrel
   have hln:=HLN.out
   by_cases hlt:k < l.length
   ·have hr:=Sl.grownR HS5.out HW.out.2.1 (by intro e;have:=hb5 (by omega);simp at e;omega)
    have hix:=Sl.at hr Tryz.underlying46 Tryz.sizeOf51 k hlt
    obtain ⟨r,hrk⟩:∃ r,l[k]=r:=⟨_,rfl⟩
    have hr:Recs wr 2 Rf.cells ao5 l cap5 b5 0:=hr
    have c0:=hr.cell Rf.len k hlt 0 (.int .i64 r.e) (by rw [hrk];rfl)
    have c1:=hr.cell Rf.len k hlt 1 (.int .i64 r.l) (by rw [hrk];rfl)
    simp only [Nat.add_zero,Nat.zero_add] at c0 c1 hix
    have HRK:=Lib.hid hrk
    have HRO:Hid r.Ok:=Lib.hid (by rw [← hrk];exact HOK.out _ (List.getElem_mem ..))
    have HTK:Hid (l.take (k+1)=l.take k ++ [r]):=Lib.hid (by rw [take_snoc _ _ hlt,hrk])
    have hzr:=World.block_lt_of_cell? _ _ c0
    clear hr hrk
    obtain ⟨s,hs⟩:∃ s,memB (l.take k) r=s:=⟨_,rfl⟩
    have hlk:(Instr.lookup 141 (.map (some w3.heap.size)) (.agg #[.int .i64 r.e,.int .i64 r.l]) false).run Tryz.prog (wr.alloc (.cells #[.int .i64 r.e,.int .i64 r.l] 51))=.ok (.bool s) (wr.alloc (.cells #[.int .i64 r.e,.int .i64 r.l] 51)):=by
     have:=(HW.out.2.2.alloc (.cells #[.int .i64 r.e,.int .i64 r.l] 51)).look Tryz.underlying141 (fun w=>Tryz.zeroValue4 w) (a:=r) HRO.out _ rfl
     rw [setM_get,hs] at this
     exact this
    have HS:=Lib.hid hs
    clear hs
    cases s with
    | true=>
     have HBD:=Lib.hid (HB2.out (nodup_take_bad hlt (by rw [HRK.out];exact of_decide_eq_true HS.out)))
     go_wp2_with fail
     (refine bodyPost_ret (results_tmp3 rfl _ _ _) rfl ?_)
     rw [HBD.out]
     exact ⟨rfl,HW1.out.trans (HW.out.1.alloc _)⟩
    | false=>
     have HN2:Hid (∀ j (hj:j < l.length),j < k+1→l[j]∉l.take j):=Lib.hid (fun j hj hjk=>by
      by_cases e:j < k
      ·exact HN.out j hj e
      ·obtain rfl:j=k:=by omega
       rw [HRK.out];exact of_decide_eq_false HS.out)
     go_wp2_with (refine wpList_vstore (K:=refK) rfl _ _ _ 141 rfl Tryz.underlying141 w3.heap.size k rfl (HW.out.2.2.alloc _) (by unfold maxLen;omega) r HRO.out rfl (.bool true) rfl (setM (memB (l.take (k+1)))) (by rw [HTK.out];exact (memB_snoc _ _).1) (fun d _ hd=>by rw [HTK.out];exact (memB_snoc _ _).2 d hd) ?_;intro w7 hm7 hg7;have HX:Hid (Keeps W1 w7∧w5.grownBy w7 (some w3.heap.size)∧VMap refK w7 w3.heap.size (k+1) (setM (memB (l.take (k+1))))):=Lib.hid ⟨Below.grown (HW.out.1.alloc _) hg7 (HW.out.1.alloc _).size (fun j hj=>by cases hj;exact K3.out.size),(HW.out.2.1.trans (World.grownBy_alloc _ _ _)).trans hg7,hm7⟩;clear hm7 hg7)
     go_roundw
     case rel=>exact ⟨k+1,by omega,by go_num,HN2,HX⟩
     case measure=>simp [intOf];omega
   ·have HGD:=Lib.hid (HG.out (nodup_take (fun j hj=>HN.out j hj (by omega))))
    go_wp2_with fail
    (refine bodyPost_ret (results_tmp3 rfl _ _ _) rfl ?_)
    rw [HGD.out]
    exact ⟨rfl,HW1.out.trans HW.out.1⟩
 ·have HBD:=Lib.hid (sidesR_bad1 (by simpa using hp))
  rw [hpo] at hp
  clear hpo HG0 HCC HLN HOK
  cases q1 with
  | false=>
   clear hp
   (go_wp2_with fail;(refine bodyPost_ret (results_tmp3 rfl _ _ _) rfl ?_);rw [HBD.out];exact ⟨rfl,HW1.out.trans K3.out⟩)
  | true=>
   cases q2 with
   | false=>
    clear hp
    (go_wp2_with fail;(refine bodyPost_ret (results_tmp3 rfl _ _ _) rfl ?_);rw [HBD.out];exact ⟨rfl,HW1.out.trans K3.out⟩)
   | true=>
    by_cases g1:x=y
    ·have f1:(x == y)=true:=by simpa using g1
     clear g1 hp
     (go_wp2_with fail;(refine bodyPost_ret (results_tmp3 rfl _ _ _) rfl ?_);rw [HBD.out];exact ⟨rfl,HW1.out.trans K3.out⟩)
    have f1:(x == y)=false:=by simpa using g1
    by_cases g2:px=y
    ·have f2:(px != y)=false:=by simpa using g2
     by_cases g3:py=x
     ·have f3:(py != x)=false:=by simpa using g3
      by_cases g4:m.state < 1
      ·have f4:decide (m.state < 1)=true:=decide_eq_true g4
       clear hp g1 g2 g3 g4
       (go_wp2_with fail;(refine bodyPost_ret (results_tmp3 rfl _ _ _) rfl ?_);rw [HBD.out];exact ⟨rfl,HW1.out.trans K3.out⟩)
      ·have f4:decide (m.state < 1)=false:=decide_eq_false g4
       by_cases g5:5 < m.state
       ·have f5:decide (5 < m.state)=true:=decide_eq_true g5
        clear hp g1 g2 g3 g4 g5
        (go_wp2_with fail;(refine bodyPost_ret (results_tmp3 rfl _ _ _) rfl ?_);rw [HBD.out];exact ⟨rfl,HW1.out.trans K3.out⟩)
       ·exfalso
        apply hp
        simp [g1,g2,g3]
        omega
     ·have f3:(py != x)=true:=by simpa using g3
      clear hp g1 g2 g3
      (go_wp2_with fail;(refine bodyPost_ret (results_tmp3 rfl _ _ _) rfl ?_);rw [HBD.out];exact ⟨rfl,HW1.out.trans K3.out⟩)
    ·have f2:(px != y)=true:=by simpa using g2
     clear hp g1 g2
     (go_wp2_with fail;(refine bodyPost_ret (results_tmp3 rfl _ _ _) rfl ?_);rw [HBD.out];exact ⟨rfl,HW1.out.trans K3.out⟩)
set_option maxRecDepth 100000 in
theorem mval_any (bv:List Value) (es:List JV) (ms:List MV) (m:Mt) (aoL:Option Addr) (capL bL oL:Nat) (aoR:Option Addr) (capR bR oR:Nat) (w:World) (H:Bks w bv es ms) (hm:∀ e∈es,e.x.lines.length≤8)
  (HL:Recs w 2 Rf.cells aoL m.left capL bL oL) (HR:Recs w 2 Rf.cells aoR m.right capR bR oR) (h1:m.left.length≤400) (h2:m.right.length≤400) (hmo:m.Ok) :
  Calls Tryz.prog 69 #[.agg bv.toArray,.agg #[.int .i64 m.id,.slice aoL m.left.length capL,.slice aoR m.right.length capR,.int .i64 m.state]] w fun e w'=>e=.returned (.bool ((sidesR es m).2.2 == 0))∧Keeps w w':=by
 have HBL:=Lib.hid H.len
 have HS:Hid (∀ W,Keeps w W→Calls Tryz.prog 76 #[.agg bv.toArray,.agg #[.int .i64 m.id,.slice aoL m.left.length capL,.slice aoR m.right.length capR,.int .i64 m.state]] W fun e w'=>e=.returned (.tuple #[.int .i64 (sidesR es m).1,.int .i64 (sidesR es m).2.1,.int .i64 (sidesR es m).2.2])∧Keeps W w'):=Lib.hid (fun W hk=>sides_any bv es ms m aoL capL bL oL aoR capR bR oR W (H.keeps hk) hm (HL.keeps hk) (HR.keeps hk) h1 h2 hmo)
 obtain ⟨⟨x,y,e⟩,he⟩:∃ q,sidesR es m=q:=⟨_,rfl⟩
 rw [he] at HS ⊢
 have hrg:=box_range w bv 36
 have hk0:Keeps w (w.alloc (.cells bv.toArray 36)):=(Keeps.refl w).alloc _
 obtain ⟨W1,hW1⟩:∃ W1,w.alloc (.cells bv.toArray 36)=W1:=⟨_,rfl⟩
 have hz1:w.heap.size+1=W1.heap.size:=by rw [← hW1];simp
 rw [hW1] at hrg hk0
 have HW1:=Lib.hid hk0
 have HRG:Hid (∀ W,Keeps W1 W→W.rangeAt w.heap.size 0 bv):=Lib.hid (fun W hk=>range_keeps hrg hk)
 clear H HL HR hrg hk0 he h1 h2 hmo
 go_enter Tryz.func69,Tryz.ntmps69
 go_upto_region 1 with fail
 (try rw [hW1])
 (try rw [hz1])
 clear hW1
 go_wp2_with (first | (refine wpList_rowG 36 _ rfl rfl w.heap.size bv _ rfl (HRG.out _ ((Keeps.refl W1).alloc _)) Tryz.underlying36 rfl (by rw [HBL.out];exact booksSize) ?_) | (go_at_call 76;(refine (HS.out _ (HW1.out.trans ((Keeps.refl W1).alloc _))).mono ?_);rintro e1 w1 ⟨rfl,hk1⟩;have K1:=Lib.hid (((Keeps.refl W1).alloc (.cells #[.int .i64 m.id,.slice aoL m.left.length capL,.slice aoR m.right.length capR,.int .i64 m.state] 48)).trans hk1);clear hk1))
 go_ret
 exact ⟨rfl,HW1.out.trans K1.out⟩
end Go.Proofs.YtoaidbhiciaeaaaGreat

end
