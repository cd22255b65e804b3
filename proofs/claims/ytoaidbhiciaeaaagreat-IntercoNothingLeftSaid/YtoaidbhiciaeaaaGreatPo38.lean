/- Walks and plain facts that the claim rests on (SmpC, SmpE). No condition. -/
import Derived.Test.YtoaidbhiciaeaaaGreatPo37
import Derived.Deep.RegionHeld3
set_option linter.unusedSimpArgs false
set_option linter.unusedVariables false
set_option maxHeartbeats 16000000
section
namespace Go.Proofs.YtoaidbhiciaeaaaGreat
open Go.RowKit
theorem results_row1 {P:Program} {fn:Func} {p:Tmp} {ty:TypeId} (h:fn.results=#[.cell p ty]) (tmps:Array Value) (w:World) (g:Nat) (cs:List Value) (d:TypeDesc)
  (hp:tmps.getD p undef=.pointer (some ⟨g,0,none⟩)) (hc:w.rangeAt g 0 cs) (hu:P.underlying ty=some d) (hd:d.isRow=true) (hi:(P.info? ty).map (·.size)=some cs.length) :
  (results fn tmps).run P w=.ok (.agg cs.toArray) w:=by
 have hp':tmps[p]?.getD undef=.pointer (some ⟨g,0,none⟩):=by simpa using hp
 simp [results,h,hp',asAddr,run_loadVar_mid w g 0 ty cs d hc hu hd hi]
theorem accSize:(Tryz.prog.info? 68).map (·.size)=some 4:=by kernel_rfl
theorem account_any (c k b p:Int) (w:World):Calls Tryz.prog 97 #[.int .i64 c,.int .i64 k,.int .i64 b,.int .i64 p] w fun e w'=>e=.returned (.agg #[.int .i64 c,.int .i64 k,.int .i64 b,.int .i64 p])∧Keeps w w':=by
 go_enter Tryz.func97,Tryz.ntmps97
 go_wp2_with fail
 refine bodyPost_ret (results_row1 rfl _ _ w.heap.size [.int .i64 c,.int .i64 k,.int .i64 b,.int .i64 p] _ rfl (RowB.range (RowB.new w _ _)) Tryz.underlying68 rfl accSize) rfl ?_
 exact ⟨rfl,(Keeps.refl w).alloc _⟩
theorem elemAc:ElemOf Tryz.prog 24 68 (.agg #[.int .i64 0,.int .i64 0,.int .i64 0,.int .i64 0]) 4 32:=⟨Tryz.underlying24,by kernel_rfl,rfl,by omega⟩
theorem Acc.one (x:Acc):∀ v∈x.cells,v.oneCell'=true:=by
 intro v hv
 simp only [Acc.cells,List.mem_cons,List.not_mem_nil,or_false] at hv
 rcases hv with rfl | rfl | rfl | rfl <;> rfl
structure ChR (w wr:World) (sz n lb:Nat) (cs:List Value) (v:Value) (rows:List Acc):Prop where
 kp:Keeps w wr
 own:wr.ownsRow w.heap.size 68 4 v rows.length (rows.flatMap Acc.cells)
 ne:v.ownBlock≠some lb
 lit:Sl wr sz (some ⟨lb,0,none⟩) n n lb 0 cs
 lt:lb < wr.heap.size
theorem ChR.start {w wr:World} {sz n:Nat} {cs:List Value} {v:Value} {rows:List Acc} {e:TypeId} (hk:Keeps w wr) (ho:wr.ownsRow w.heap.size 68 4 v rows.length (rows.flatMap Acc.cells)) (hs:cs.length=n * sz) (hn:n≤9223372036854775807) :
  ChR w (wr.alloc (.cells cs.toArray e)) sz n wr.heap.size cs v rows:=
 ⟨hk.alloc _,ho.alloc _,fun h=>by have:=(ho.lt _ h).2;omega,Sl.lit wr sz n cs e hs hn,by simp⟩
theorem ChR.step {w wr w2 w9:World} {sz n lb:Nat} {cs:List Value} {v v':Value} {rows:List Acc} {x:Acc} {o:Obj} (H:ChR w wr sz n lb cs v rows) (hk:Keeps wr w2) (hown':w9.ownsRow w.heap.size 68 4 v' (rows.length+1) (rows.flatMap Acc.cells ++ x.cells)) (hg:(w2.alloc o).grownBy w9 v.ownBlock) (hat:v'.ownBlock=v.ownBlock∨v'.ownBlock=some (w2.heap.size+1)) :
  ChR w w9 sz n lb cs v' (rows ++ [x]):=by
 have hkd:Keeps wr (w2.alloc o):=hk.alloc o
 refine ⟨Below.grown (H.kp.trans hkd) hg (H.kp.trans hkd).size (fun j hj=>(H.own.lt j hj).1),?_,?_,Sl.grownR (Sl.keeps H.lit hkd) hg (fun e=>H.ne e.symm),?_⟩
 ·rw [List.length_append,List.flatMap_append,List.flatMap_singleton];exact hown'
 ·rcases hat with h | h
  ·rw [h];exact H.ne
  ·rw [h];intro e;have:=Option.some.inj e;have:=H.lt;have:=hk.size;omega
 ·exact Nat.lt_of_lt_of_le H.lt (Nat.le_trans hkd.size hg.size)
theorem len_map_take {α β:Type} (f:α→β) (l:List α) (k:Nat) (hk:k≤l.length):((l.take k).map f).length=k:=by rw [List.length_map,List.length_take];omega
def ch1:List Rf:=[⟨1000,0⟩,⟨1010,1000⟩,⟨1100,1000⟩,⟨1200,1000⟩]
def ch2:List Int:=[1300,1500,1600,1700]
def ch4:List Int:=[3000,3100,3200,3300,3400,3500]
def ch5:List Rf:=[⟨4000,0⟩,⟨4100,4000⟩,⟨4500,0⟩,⟨4600,0⟩,⟨4700,0⟩]
def ch6:List Int:=[5000,5100,5500,5600,5700]
def chP (k b:Int) (r:Rf):Acc:=⟨r.e,k,b,r.l⟩
def chI (k b:Int) (c:Int):Acc:=⟨c,k,b,0⟩
def chA:List Acc:=ch1.map (chP 1 1)
def chB:List Acc:=chA ++ ch2.map (chI 1 3)
def chC:List Acc:=chB ++ [⟨2000,2,1,0⟩,⟨2100,2,1,2000⟩]
def chD:List Acc:=chC ++ ch4.map (chI 3 3)
def chE:List Acc:=chD ++ ch5.map (chP 4 2)
def chF:List Acc:=chE ++ ch6.map (chI 5 2)
set_option maxRecDepth 100000 in
theorem schart_any (w:World):Calls Tryz.prog 60 #[] w fun e w'=>∃ v,e=.returned v∧w'.ownsRow w.heap.size 68 4 v chF.length (chF.flatMap Acc.cells)∧Keeps w w':=by
 go_enter Tryz.func60,Tryz.ntmps60
 go_wp2_with fail
 have HCR:Hid (ChR w (w.alloc (.cells (ch1.flatMap Rf.cells).toArray 158)) 2 ch1.length w.heap.size (ch1.flatMap Rf.cells) (.slice none 0 0) ([]:List Acc)):=Lib.hid (ChR.start (Keeps.refl w) (World.ownsRow_nil _ _ _ _) (by rfl) (by decide))
 go_loopw [1,18] (fun v vi wr=>∃ k:Nat,k≤ch1.length∧vi=.int .i64 k∧Hid (ChR w wr 2 ch1.length w.heap.size (ch1.flatMap Rf.cells) v (([]:List Acc) ++ (ch1.take k).map (chP 1 1)))) (fun _ vi _=>ch1.length - (intOf vi).toNat)
 case atStart=>exact ⟨0,Nat.zero_le _,rfl,Lib.hid (by rw [List.take_zero,List.map_nil,List.append_nil];exact HCR.out)⟩
 case round=>
  obtain ⟨k,hk,rfl,HW⟩:=hrel
  by_cases hlt:k < ch1.length
  ·have hr:Recs wr 2 Rf.cells (some ⟨w.heap.size,0,none⟩) ch1 ch1.length w.heap.size 0:=HW.out.lit
   have hix:=Sl.at hr Tryz.underlying159 Tryz.sizeOf158 k hlt
   obtain ⟨r,hrk⟩:∃ r,ch1[k]=r:=⟨_,rfl⟩
   have c0:=hr.cell Rf.len k hlt 0 (.int .i64 r.e) (by rw [hrk];rfl)
   have c1:=hr.cell Rf.len k hlt 1 (.int .i64 r.l) (by rw [hrk];rfl)
   simp only [Nat.zero_add,Nat.add_zero] at c0 c1 hix
   have hpl:(([]:List Acc) ++ (ch1.take k).map (chP 1 1)).length≤1000:=by
    rw [List.length_append,len_map_take _ _ _ hk]
    exact Nat.le_trans (Nat.add_le_add_left hk _) (by decide)
   obtain ⟨rows,hrows⟩:∃ rows,([]:List Acc) ++ (ch1.take k).map (chP 1 1)=rows:=⟨_,rfl⟩
   have HNX:Hid (([]:List Acc) ++ (ch1.take (k+1)).map (chP 1 1)=rows ++ [chP 1 1 r]):=Lib.hid (by rw [take_snoc _ k hlt,hrk,List.map_append,← List.append_assoc,hrows];rfl)
   rw [hrows] at hpl HW
   have hzr:=World.block_lt_of_cell? _ _ c0
   simp only at hzr
   have hcl:ch1.length≤10:=by decide
   have hll:ch1.length=4:=rfl
   rw [hll] at hix
   have hlt4:k < 4:=hlt
   clear hr hrk hrows hcl hll hk
   go_wp2_with (first | (go_at_call 97;(refine (account_any _ _ _ _ _).mono ?_);rintro e2 w2 ⟨rfl,hk2⟩;have K2:=Lib.hid (((Keeps.refl wr).alloc (.cells #[.int .i64 r.e,.int .i64 r.l] 158)).trans hk2);clear hk2) | (at_builtin;(refine wpList_app_rawR elemAc rfl (.tmp 22) (.tmp 28) rfl _ rows.length _ rfl w.heap.size (own_keepsH HW.out.own K2.out) (HW.out.kp.trans K2.out).size [.int .i64 r.e,.int .i64 1,.int .i64 1,.int .i64 r.l] _ 1 rfl rfl rfl (Acc.one ⟨r.e,1,1,r.l⟩) (by omega) (by omega) ?_);intro v' w9 hown' hg hat;have HX:=Lib.hid (HW.out.step (x:=chP 1 1 r) K2.out hown' hg hat);clear hown' hg hat))
   go_roundw
   case rel=>exact ⟨k+1,hlt,by go_num,Lib.hid (by rw [HNX.out];exact HX.out)⟩
   case measure=>(have hm:ch1.length=4:=rfl);simp [intOf,hm];omega
  ·have hge:¬ k < 4:=hlt
   have hke:(ch1.take k).map (chP 1 1)=ch1.map (chP 1 1):=by rw [List.take_of_length_le (by omega)]
   have HO:=Lib.hid (show wr.ownsRow w.heap.size 68 4 u1 chA.length (chA.flatMap Acc.cells) by have:=HW.out.own;rw [hke] at this;exact this)
   have HK:=Lib.hid HW.out.kp
   clear HCR hke
   obtain ⟨wA,rfl⟩:∃ q:World,q=wr:=⟨_,rfl⟩
   have HKA:=HK
   have HOA:=HO
   clear HK HO HW
   go_wp2_with fail
   have HCR:Hid (ChR w (wA.alloc (.cells (ch2.map (Value.int .i64)).toArray 3)) 1 ch2.length wA.heap.size (ch2.map (Value.int .i64)) u1 chA):=Lib.hid (ChR.start HKA.out HOA.out (by rfl) (by decide))
   go_loopw [1,33] (fun v vi wr=>∃ k:Nat,k≤ch2.length∧vi=.int .i64 k∧Hid (ChR w wr 1 ch2.length wA.heap.size (ch2.map (Value.int .i64)) v (chA ++ (ch2.take k).map (chI 1 3)))) (fun _ vi _=>ch2.length - (intOf vi).toNat)
   case atStart=>exact ⟨0,Nat.zero_le _,rfl,Lib.hid (by rw [List.take_zero,List.map_nil,List.append_nil];exact HCR.out)⟩
   case round=>
    obtain ⟨k,hk,rfl,HW⟩:=hrel
    by_cases hlt:k < ch2.length
    ·have hr:=HW.out.lit
     have hix:=Sl.at1 hr Tryz.underlying69 Tryz.sizeOf3 k hlt
     obtain ⟨r,hrk⟩:∃ r,ch2[k]=r:=⟨_,rfl⟩
     have c0:=Sl.int hr k hlt
     rw [hrk] at c0
     simp only [Nat.zero_add] at c0 hix
     have hpl:(chA ++ (ch2.take k).map (chI 1 3)).length≤1000:=by
      rw [List.length_append,len_map_take _ _ _ hk]
      exact Nat.le_trans (Nat.add_le_add_left hk _) (by decide)
     obtain ⟨rows,hrows⟩:∃ rows,chA ++ (ch2.take k).map (chI 1 3)=rows:=⟨_,rfl⟩
     have HNX:Hid (chA ++ (ch2.take (k+1)).map (chI 1 3)=rows ++ [chI 1 3 r]):=Lib.hid (by rw [take_snoc _ k hlt,hrk,List.map_append,← List.append_assoc,hrows];rfl)
     rw [hrows] at hpl HW
     have hzr:=World.block_lt_of_cell? _ _ c0
     simp only at hzr
     have hcl:ch2.length≤10:=by decide
     have hll:ch2.length=4:=rfl
     rw [hll] at hix
     have hlt4:k < 4:=hlt
     clear hr hrk hrows hcl hll hk
     go_wp2_with (first | (go_at_call 97;(refine (account_any _ _ _ _ _).mono ?_);rintro e2 w2 ⟨rfl,hk2⟩;have K2:Hid (Keeps wr w2):=Lib.hid hk2;clear hk2) | (at_builtin;(refine wpList_app_rawR elemAc rfl (.tmp 37) (.tmp 40) rfl _ rows.length _ rfl w.heap.size (own_keepsH HW.out.own K2.out) (HW.out.kp.trans K2.out).size [.int .i64 r,.int .i64 1,.int .i64 3,.int .i64 0] _ 1 rfl rfl rfl (Acc.one ⟨r,1,3,0⟩) (by omega) (by omega) ?_);intro v' w9 hown' hg hat;have HX:=Lib.hid (HW.out.step (x:=chI 1 3 r) K2.out hown' hg hat);clear hown' hg hat))
     go_roundw
     case rel=>exact ⟨k+1,hlt,by go_num,Lib.hid (by rw [HNX.out];exact HX.out)⟩
     case measure=>(have hm:ch2.length=4:=rfl);simp [intOf,hm];omega
    ·have hge:¬ k < 4:=hlt
     have hke:(ch2.take k).map (chI 1 3)=ch2.map (chI 1 3):=by rw [List.take_of_length_le (by omega)]
     have HO:=Lib.hid (show wr.ownsRow w.heap.size 68 4 u1 chB.length (chB.flatMap Acc.cells) by have:=HW.out.own;rw [hke] at this;exact this)
     have HK:=Lib.hid HW.out.kp
     clear HCR hke
     obtain ⟨wB,rfl⟩:∃ q:World,q=wr:=⟨_,rfl⟩
     have HKB:=HK
     have HOB:=HO
     clear HK HO HW
     go_wp2_with (first | (go_at_call 97;first | (guard_hyp KM:_;refine (account_any _ _ _ _ _).mono ?_;rintro e3 w3 ⟨rfl,hk3⟩;have KN:=Lib.hid (KM.out.trans hk3);clear hk3) | (refine (account_any _ _ _ _ _).mono ?_;rintro e2 w2 ⟨rfl,hk2⟩;have KM:=Lib.hid hk2;clear hk2)) | (at_builtin;(refine wpList_app_all elemAc rfl (.tmp 43) (.tmp 46) rfl w _ chB.length _ rfl w.heap.size (own_keepsH HOB.out (KN.out.alloc _)) (HKB.out.trans (KN.out.alloc _)) (HKB.out.trans (KN.out.alloc _)).size (some ⟨w3.heap.size,0,none⟩) 2 2 w3.heap.size 0 [.int .i64 2000,.int .i64 2,.int .i64 1,.int .i64 0,.int .i64 2100,.int .i64 2,.int .i64 1,.int .i64 2000] rfl (Sl.lit w3 4 2 [.int .i64 2000,.int .i64 2,.int .i64 1,.int .i64 0,.int .i64 2100,.int .i64 2,.int .i64 1,.int .i64 2000] 68 rfl (by omega)) (by intro u hu;simp only [List.mem_cons,List.not_mem_nil,or_false] at hu;rcases hu with rfl | rfl | rfl | rfl | rfl | rfl | rfl | rfl <;> rfl) (by decide) (by decide) ?_);intro v5 w5 hown5 hb5 hsz5;have HOC:Hid (w5.ownsRow w.heap.size 68 4 v5 chC.length (chC.flatMap Acc.cells)):=Lib.hid hown5;have HKC:Hid (Keeps w w5):=Lib.hid hb5;clear hown5 hb5))
     have HCR:Hid (ChR w (w5.alloc (.cells (ch4.map (Value.int .i64)).toArray 3)) 1 ch4.length w5.heap.size (ch4.map (Value.int .i64)) v5 chC):=Lib.hid (ChR.start HKC.out HOC.out (by rfl) (by decide))
     go_loopw [1,50] (fun v vi wr=>∃ k:Nat,k≤ch4.length∧vi=.int .i64 k∧Hid (ChR w wr 1 ch4.length w5.heap.size (ch4.map (Value.int .i64)) v (chC ++ (ch4.take k).map (chI 3 3)))) (fun _ vi _=>ch4.length - (intOf vi).toNat)
     case atStart=>exact ⟨0,Nat.zero_le _,rfl,Lib.hid (by rw [List.take_zero,List.map_nil,List.append_nil];exact HCR.out)⟩
     case round=>
      obtain ⟨k,hk,rfl,HW⟩:=hrel
      by_cases hlt:k < ch4.length
      ·have hr:=HW.out.lit
       have hix:=Sl.at1 hr Tryz.underlying69 Tryz.sizeOf3 k hlt
       obtain ⟨r,hrk⟩:∃ r,ch4[k]=r:=⟨_,rfl⟩
       have c0:=Sl.int hr k hlt
       rw [hrk] at c0
       simp only [Nat.zero_add] at c0 hix
       have hpl:(chC ++ (ch4.take k).map (chI 3 3)).length≤1000:=by
        rw [List.length_append,len_map_take _ _ _ hk]
        exact Nat.le_trans (Nat.add_le_add_left hk _) (by decide)
       obtain ⟨rows,hrows⟩:∃ rows,chC ++ (ch4.take k).map (chI 3 3)=rows:=⟨_,rfl⟩
       have HNX:Hid (chC ++ (ch4.take (k+1)).map (chI 3 3)=rows ++ [chI 3 3 r]):=Lib.hid (by rw [take_snoc _ k hlt,hrk,List.map_append,← List.append_assoc,hrows];rfl)
       rw [hrows] at hpl HW
       have hzr:=World.block_lt_of_cell? _ _ c0
       simp only at hzr
       have hcl:ch4.length≤10:=by decide
       have hll:ch4.length=6:=rfl
       rw [hll] at hix
       have hlt4:k < 6:=hlt
       clear hr hrk hrows hcl hll hk
       go_wp2_with (first | (go_at_call 97;(refine (account_any _ _ _ _ _).mono ?_);rintro e2 w2 ⟨rfl,hk2⟩;have K2:Hid (Keeps wr w2):=Lib.hid hk2;clear hk2) | (at_builtin;(refine wpList_app_rawR elemAc rfl (.tmp 54) (.tmp 57) rfl _ rows.length _ rfl w.heap.size (own_keepsH HW.out.own K2.out) (HW.out.kp.trans K2.out).size [.int .i64 r,.int .i64 3,.int .i64 3,.int .i64 0] _ 1 rfl rfl rfl (Acc.one ⟨r,3,3,0⟩) (by omega) (by omega) ?_);intro v' w9 hown' hg hat;have HX:=Lib.hid (HW.out.step (x:=chI 3 3 r) K2.out hown' hg hat);clear hown' hg hat))
       go_roundw
       case rel=>exact ⟨k+1,hlt,by go_num,Lib.hid (by rw [HNX.out];exact HX.out)⟩
       case measure=>(have hm:ch4.length=6:=rfl);simp [intOf,hm];omega
      ·have hge:¬ k < 6:=hlt
       have hke:(ch4.take k).map (chI 3 3)=ch4.map (chI 3 3):=by rw [List.take_of_length_le (by omega)]
       have HO:=Lib.hid (show wr.ownsRow w.heap.size 68 4 u1 chD.length (chD.flatMap Acc.cells) by have:=HW.out.own;rw [hke] at this;exact this)
       have HK:=Lib.hid HW.out.kp
       clear HCR hke
       obtain ⟨wD,rfl⟩:∃ q:World,q=wr:=⟨_,rfl⟩
       have HKD:=HK
       have HOD:=HO
       clear HK HO HW
       go_wp2_with fail
       have HCR:Hid (ChR w (wD.alloc (.cells (ch5.flatMap Rf.cells).toArray 158)) 2 ch5.length wD.heap.size (ch5.flatMap Rf.cells) u1 chD):=Lib.hid (ChR.start HKD.out HOD.out (by rfl) (by decide))
       go_loopw [1,67] (fun v vi wr=>∃ k:Nat,k≤ch5.length∧vi=.int .i64 k∧Hid (ChR w wr 2 ch5.length wD.heap.size (ch5.flatMap Rf.cells) v (chD ++ (ch5.take k).map (chP 4 2)))) (fun _ vi _=>ch5.length - (intOf vi).toNat)
       case atStart=>exact ⟨0,Nat.zero_le _,rfl,Lib.hid (by rw [List.take_zero,List.map_nil,List.append_nil];exact HCR.out)⟩
       case round=>
        obtain ⟨k,hk,rfl,HW⟩:=hrel
        by_cases hlt:k < ch5.length
        ·have hr:Recs wr 2 Rf.cells (some ⟨wD.heap.size,0,none⟩) ch5 ch5.length wD.heap.size 0:=HW.out.lit
         have hix:=Sl.at hr Tryz.underlying159 Tryz.sizeOf158 k hlt
         obtain ⟨r,hrk⟩:∃ r,ch5[k]=r:=⟨_,rfl⟩
         have c0:=hr.cell Rf.len k hlt 0 (.int .i64 r.e) (by rw [hrk];rfl)
         have c1:=hr.cell Rf.len k hlt 1 (.int .i64 r.l) (by rw [hrk];rfl)
         simp only [Nat.zero_add,Nat.add_zero] at c0 c1 hix
         have hpl:(chD ++ (ch5.take k).map (chP 4 2)).length≤1000:=by
          rw [List.length_append,len_map_take _ _ _ hk]
          exact Nat.le_trans (Nat.add_le_add_left hk _) (by decide)
         obtain ⟨rows,hrows⟩:∃ rows,chD ++ (ch5.take k).map (chP 4 2)=rows:=⟨_,rfl⟩
         have HNX:Hid (chD ++ (ch5.take (k+1)).map (chP 4 2)=rows ++ [chP 4 2 r]):=Lib.hid (by rw [take_snoc _ k hlt,hrk,List.map_append,← List.append_assoc,hrows];rfl)
         rw [hrows] at hpl HW
         have hzr:=World.block_lt_of_cell? _ _ c0
         simp only at hzr
         have hcl:ch5.length≤10:=by decide
         have hll:ch5.length=5:=rfl
         rw [hll] at hix
         have hlt4:k < 5:=hlt
         clear hr hrk hrows hcl hll hk
         go_wp2_with (first | (go_at_call 97;(refine (account_any _ _ _ _ _).mono ?_);rintro e2 w2 ⟨rfl,hk2⟩;have K2:=Lib.hid (((Keeps.refl wr).alloc (.cells #[.int .i64 r.e,.int .i64 r.l] 158)).trans hk2);clear hk2) | (at_builtin;(refine wpList_app_rawR elemAc rfl (.tmp 71) (.tmp 77) rfl _ rows.length _ rfl w.heap.size (own_keepsH HW.out.own K2.out) (HW.out.kp.trans K2.out).size [.int .i64 r.e,.int .i64 4,.int .i64 2,.int .i64 r.l] _ 1 rfl rfl rfl (Acc.one ⟨r.e,4,2,r.l⟩) (by omega) (by omega) ?_);intro v' w9 hown' hg hat;have HX:=Lib.hid (HW.out.step (x:=chP 4 2 r) K2.out hown' hg hat);clear hown' hg hat))
         go_roundw
         case rel=>exact ⟨k+1,hlt,by go_num,Lib.hid (by rw [HNX.out];exact HX.out)⟩
         case measure=>(have hm:ch5.length=5:=rfl);simp [intOf,hm];omega
        ·have hge:¬ k < 5:=hlt
         have hke:(ch5.take k).map (chP 4 2)=ch5.map (chP 4 2):=by rw [List.take_of_length_le (by omega)]
         have HO:=Lib.hid (show wr.ownsRow w.heap.size 68 4 u1 chE.length (chE.flatMap Acc.cells) by have:=HW.out.own;rw [hke] at this;exact this)
         have HK:=Lib.hid HW.out.kp
         clear HCR hke
         obtain ⟨wE,rfl⟩:∃ q:World,q=wr:=⟨_,rfl⟩
         have HKE:=HK
         have HOE:=HO
         clear HK HO HW
         go_wp2_with fail
         have HCR:Hid (ChR w (wE.alloc (.cells (ch6.map (Value.int .i64)).toArray 3)) 1 ch6.length wE.heap.size (ch6.map (Value.int .i64)) u1 chE):=Lib.hid (ChR.start HKE.out HOE.out (by rfl) (by decide))
         go_loopw [1,82] (fun v vi wr=>∃ k:Nat,k≤ch6.length∧vi=.int .i64 k∧Hid (ChR w wr 1 ch6.length wE.heap.size (ch6.map (Value.int .i64)) v (chE ++ (ch6.take k).map (chI 5 2)))) (fun _ vi _=>ch6.length - (intOf vi).toNat)
         case atStart=>exact ⟨0,Nat.zero_le _,rfl,Lib.hid (by rw [List.take_zero,List.map_nil,List.append_nil];exact HCR.out)⟩
         case round=>
          obtain ⟨k,hk,rfl,HW⟩:=hrel
          by_cases hlt:k < ch6.length
          ·have hr:=HW.out.lit
           have hix:=Sl.at1 hr Tryz.underlying69 Tryz.sizeOf3 k hlt
           obtain ⟨r,hrk⟩:∃ r,ch6[k]=r:=⟨_,rfl⟩
           have c0:=Sl.int hr k hlt
           rw [hrk] at c0
           simp only [Nat.zero_add] at c0 hix
           have hpl:(chE ++ (ch6.take k).map (chI 5 2)).length≤1000:=by
            rw [List.length_append,len_map_take _ _ _ hk]
            exact Nat.le_trans (Nat.add_le_add_left hk _) (by decide)
           obtain ⟨rows,hrows⟩:∃ rows,chE ++ (ch6.take k).map (chI 5 2)=rows:=⟨_,rfl⟩
           have HNX:Hid (chE ++ (ch6.take (k+1)).map (chI 5 2)=rows ++ [chI 5 2 r]):=Lib.hid (by rw [take_snoc _ k hlt,hrk,List.map_append,← List.append_assoc,hrows];rfl)
           rw [hrows] at hpl HW
           have hzr:=World.block_lt_of_cell? _ _ c0
           simp only at hzr
           have hcl:ch6.length≤10:=by decide
           have hll:ch6.length=5:=rfl
           rw [hll] at hix
           have hlt4:k < 5:=hlt
           clear hr hrk hrows hcl hll hk
           go_wp2_with (first | (go_at_call 97;(refine (account_any _ _ _ _ _).mono ?_);rintro e2 w2 ⟨rfl,hk2⟩;have K2:Hid (Keeps wr w2):=Lib.hid hk2;clear hk2) | (at_builtin;(refine wpList_app_rawR elemAc rfl (.tmp 86) (.tmp 89) rfl _ rows.length _ rfl w.heap.size (own_keepsH HW.out.own K2.out) (HW.out.kp.trans K2.out).size [.int .i64 r,.int .i64 5,.int .i64 2,.int .i64 0] _ 1 rfl rfl rfl (Acc.one ⟨r,5,2,0⟩) (by omega) (by omega) ?_);intro v' w9 hown' hg hat;have HX:=Lib.hid (HW.out.step (x:=chI 5 2 r) K2.out hown' hg hat);clear hown' hg hat))
           go_roundw
           case rel=>exact ⟨k+1,hlt,by go_num,Lib.hid (by rw [HNX.out];exact HX.out)⟩
           case measure=>(have hm:ch6.length=5:=rfl);simp [intOf,hm];omega
          ·have hge:¬ k < 5:=hlt
           have hke:(ch6.take k).map (chI 5 2)=ch6.map (chI 5 2):=by rw [List.take_of_length_le (by omega)]
           have HO:=Lib.hid (show wr.ownsRow w.heap.size 68 4 u1 chF.length (chF.flatMap Acc.cells) by have:=HW.out.own;rw [hke] at this;exact this)
           have HK:=Lib.hid HW.out.kp
           clear HCR hke
           go_wp2_with fail
           go_ret
           exact ⟨_,rfl,HO.out,HK.out⟩
end Go.Proofs.YtoaidbhiciaeaaaGreat

end
section
namespace Go.Proofs.YtoaidbhiciaeaaaGreat
open Go.RowKit
theorem elemLk:ElemOf Tryz.prog 104 162 (.agg #[.int .i64 0,.int .i64 0,.int .i64 0]) 3 24:=⟨Tryz.underlying104,by kernel_rfl,rfl,by omega⟩
theorem Lnk.one (x:Lnk):∀ v∈x.cells,v.oneCell'=true:=by
 intro v hv
 simp only [Lnk.cells,List.mem_cons,List.not_mem_nil,or_false] at hv
 rcases hv with rfl | rfl | rfl <;> rfl
def seK:List Int:=[1,1,1,1,1,2,2,3,3,4,4,4,5,5]
def seT:List Int:=[1010,1100,1200,1300,1500,2000,2100,3000,3300,4000,4100,4700,5000,5100]
def saF (k:Nat):Acc:=⟨10 * ((k:Int)+1),seK.getD k 0,0,0⟩
def slF (k:Nat):Lnk:=⟨10 * ((k:Int)+1),seT.getD k 0,-25567⟩
def sAcc (n:Nat):List Acc:=(List.range n).map saF
def sLnk (n:Nat):List Lnk:=(List.range n).map slF
theorem sAcc_snoc (n:Nat):sAcc (n+1)=sAcc n ++ [saF n]:=by unfold sAcc;rw [List.range_succ,List.map_append];rfl
theorem sLnk_snoc (n:Nat):sLnk (n+1)=sLnk n ++ [slF n]:=by unfold sLnk;rw [List.range_succ,List.map_append];rfl
theorem sAcc_len (n:Nat):(sAcc n).length=n:=by simp [sAcc]
theorem sLnk_len (n:Nat):(sLnk n).length=n:=by simp [sLnk]
structure SeR (w wr:World) (nm cu:ByteArray) (jt:Bool) (k1 k2:Nat) (a1:Option Addr) (c1:Nat) (a2:Option Addr) (c2:Nat):Prop where
 kp:Keeps w wr
 z6:RowB wr w.heap.size 106 [.string ⟨#[]⟩,.string ⟨#[]⟩,.slice none 0 0,.slice none 0 0,.bool false]
 box:RowB wr (w.heap.size+1) 106 [.string nm,.string cu,.slice a1 k1 c1,.slice a2 k2 c2,.bool jt]
 lk:Sl wr 1 (some ⟨w.heap.size+2,0,none⟩) 14 14 (w.heap.size+2) 0 (seK.map (.int .i64))
 ll:Sl wr 1 (some ⟨w.heap.size+3,0,none⟩) 14 14 (w.heap.size+3) 0 (seT.map (.int .i64))
 o1:wr.ownsRow (w.heap.size+4) 68 4 (.slice a1 k1 c1) k1 ((sAcc k1).flatMap Acc.cells)
 o2:wr.ownsRow (w.heap.size+4) 162 3 (.slice a2 k2 c2) k2 ((sLnk k2).flatMap Lnk.cells)
 sep:Sep (.slice a1 k1 c1) (.slice a2 k2 c2)
 sz:w.heap.size+4≤wr.heap.size
theorem SeR.drew {w wr:World} {nm cu:ByteArray} {jt:Bool} {k1 k2:Nat} {a1:Option Addr} {c1:Nat} {a2:Option Addr} {c2:Nat} (H:SeR w wr nm cu jt k1 k2 a1 c1 a2 c2):SeR w wr.drew nm cu jt k1 k2 a1 c1 a2 c2:=
 ⟨H.kp.drew,H.z6,H.box,Sl.keeps H.lk (Keeps.refl wr).drew,Sl.keeps H.ll (Keeps.refl wr).drew,H.o1,H.o2,H.sep,H.sz⟩
theorem SeR.step1 {w wr w9:World} {nm cu:ByteArray} {jt:Bool} {k1 k2:Nat} {a1:Option Addr} {c1:Nat} {a2:Option Addr} {c2:Nat} {a9:Option Addr} {c9:Nat} {o:Obj} (H:SeR w wr nm cu jt k1 k2 a1 c1 a2 c2)
  (hown':w9.ownsRow (w.heap.size+4) 68 4 (.slice a9 (k1+1) c9) (k1+1) ((sAcc k1).flatMap Acc.cells ++ (saF k1).cells)) (hg:(wr.alloc o).grownBy w9 (Value.slice a1 k1 c1).ownBlock) (hat:(Value.slice a9 (k1+1) c9).ownBlock=(Value.slice a1 k1 c1).ownBlock∨(Value.slice a9 (k1+1) c9).ownBlock=some (wr.heap.size+1)) :
  SeR w (w9.setCell ⟨w.heap.size+1,2,none⟩ (.slice a9 (k1+1) c9)) nm cu jt (k1+1) k2 a9 c9 a2 c2:=by
 have hka:Keeps wr (wr.alloc o):=(Keeps.refl wr).alloc o
 have hne:∀ B,B < w.heap.size+4→some B≠(Value.slice a1 k1 c1).ownBlock:=fun B hB e=>by have:=(H.o1.lt B e.symm).1;omega
 have hs:=grown_set w9 (w.heap.size+1) 2 (.slice a9 (k1+1) c9)
 refine ⟨?_,?_,?_,?_,?_,?_,?_,?_,?_⟩
 ·exact Keeps.setCell (Below.grown (H.kp.trans hka) hg (H.kp.trans hka).size (fun j hj=>by have:=(H.o1.lt j hj).1;omega)) (p:=⟨w.heap.size+1,2,none⟩) (Nat.le_succ _) _
 ·exact ((H.z6.alloc o).kept hg (hne _ (by omega))).kept hs (by simp)
 ·exact (((H.box.alloc o).kept hg (hne _ (by omega))).set 2 _)
 ·exact Sl.grownR (Sl.grownR (Sl.keeps H.lk hka) hg (hne _ (by omega))) hs (by simp)
 ·exact Sl.grownR (Sl.grownR (Sl.keeps H.ll hka) hg (hne _ (by omega))) hs (by simp)
 ·rw [sAcc_snoc,List.flatMap_append,List.flatMap_singleton]
  exact ownsRow_setCell_below hown' (by show w.heap.size+1 < _;omega) _
 ·refine ownsRow_setCell_below ((H.o2.alloc o).kept hg ?_) (by show w.heap.size+1 < _;omega) _
  rcases H.sep with h | h | h
  ·cases hb:(Value.slice a2 k2 c2).ownBlock with
   | none=>exact .inl rfl
   | some q=>rw [h];exact .inr (by simp)
  ·exact .inl h
  ·exact .inr fun e=>h e.symm
 ·refine Sep.symm (Sep.moved (Sep.symm H.sep) H.o2 (B:=wr.heap.size+1) (Nat.le_succ _) hat)
 ·rw [World.size_setCell]
  exact Nat.le_trans H.sz (Nat.le_trans hka.size hg.size)
theorem SeR.step2 {w wr w9:World} {nm cu:ByteArray} {jt:Bool} {k1 k2:Nat} {a1:Option Addr} {c1:Nat} {a2:Option Addr} {c2:Nat} {a9:Option Addr} {c9:Nat} {o:Obj} (H:SeR w wr nm cu jt k1 k2 a1 c1 a2 c2)
  (hown':w9.ownsRow (w.heap.size+4) 162 3 (.slice a9 (k2+1) c9) (k2+1) ((sLnk k2).flatMap Lnk.cells ++ (slF k2).cells)) (hg:(wr.alloc o).grownBy w9 (Value.slice a2 k2 c2).ownBlock) (hat:(Value.slice a9 (k2+1) c9).ownBlock=(Value.slice a2 k2 c2).ownBlock∨(Value.slice a9 (k2+1) c9).ownBlock=some (wr.heap.size+1)) :
  SeR w (w9.setCell ⟨w.heap.size+1,3,none⟩ (.slice a9 (k2+1) c9)) nm cu jt k1 (k2+1) a1 c1 a9 c9:=by
 have hka:Keeps wr (wr.alloc o):=(Keeps.refl wr).alloc o
 have hne:∀ B,B < w.heap.size+4→some B≠(Value.slice a2 k2 c2).ownBlock:=fun B hB e=>by have:=(H.o2.lt B e.symm).1;omega
 have hs:=grown_set w9 (w.heap.size+1) 3 (.slice a9 (k2+1) c9)
 refine ⟨?_,?_,?_,?_,?_,?_,?_,?_,?_⟩
 ·exact Keeps.setCell (Below.grown (H.kp.trans hka) hg (H.kp.trans hka).size (fun j hj=>by have:=(H.o2.lt j hj).1;omega)) (p:=⟨w.heap.size+1,3,none⟩) (Nat.le_succ _) _
 ·exact ((H.z6.alloc o).kept hg (hne _ (by omega))).kept hs (by simp)
 ·exact (((H.box.alloc o).kept hg (hne _ (by omega))).set 3 _)
 ·exact Sl.grownR (Sl.grownR (Sl.keeps H.lk hka) hg (hne _ (by omega))) hs (by simp)
 ·exact Sl.grownR (Sl.grownR (Sl.keeps H.ll hka) hg (hne _ (by omega))) hs (by simp)
 ·refine ownsRow_setCell_below ((H.o1.alloc o).kept hg ?_) (by show w.heap.size+1 < _;omega) _
  rcases H.sep with h | h | h
  ·exact .inl h
  ·cases hb:(Value.slice a1 k1 c1).ownBlock with
   | none=>exact .inl rfl
   | some q=>rw [h];exact .inr (by simp)
  ·exact .inr h
 ·rw [sLnk_snoc,List.flatMap_append,List.flatMap_singleton]
  exact ownsRow_setCell_below hown' (by show w.heap.size+1 < _;omega) _
 ·exact Sep.moved H.sep H.o1 (B:=wr.heap.size+1) (Nat.le_succ _) hat
 ·rw [World.size_setCell]
  exact Nat.le_trans H.sz (Nat.le_trans hka.size hg.size)
theorem keeps_row5E {a:World} {W:World} {B:Nat} (h:Keeps a W) (hB:a.heap.size≤B) (u v y z t:Value):Keeps a (((((W.setCell ⟨B,0,none⟩ u).setCell ⟨B,1,none⟩ v).setCell ⟨B,2,none⟩ y).setCell ⟨B,3,none⟩ z).setCell ⟨B,4,none⟩ t):=
 ((keeps_row3 h hB u v y).setCell (p:=⟨B,3,none⟩) hB _).setCell (p:=⟨B,4,none⟩) hB _
theorem own_row5E {W:World} {base e sz n B:Nat} {v a b c d f:Value} {xs:List Value} (h:W.ownsRow base e sz v n xs) (hB:B < base):(((((W.setCell ⟨B,0,none⟩ a).setCell ⟨B,1,none⟩ b).setCell ⟨B,2,none⟩ c).setCell ⟨B,3,none⟩ d).setCell ⟨B,4,none⟩ f).ownsRow base e sz v n xs:=
 ownsRow_setCell_below (ownsRow_setCell_below (own_row3 h hB) hB _) hB _
theorem entSz:(Tryz.prog.info? 106).map (·.size)=some 5:=by kernel_rfl
set_option maxRecDepth 100000 in
theorem sent_any (nm cu:ByteArray) (jt:Bool) (w:World):Calls Tryz.prog 61 #[.string nm,.string cu,.bool jt] w fun e w'=>∃ a1 c1 a2 c2,e=.returned (.agg #[.string nm,.string cu,.slice a1 14 c1,.slice a2 14 c2,.bool jt])∧w'.ownsRow w.heap.size 68 4 (.slice a1 14 c1) 14 ((sAcc 14).flatMap Acc.cells)∧w'.ownsRow w.heap.size 162 3 (.slice a2 14 c2) 14 ((sLnk 14).flatMap Lnk.cells)∧Keeps w w':=by
 go_enter Tryz.func61,Tryz.ntmps61
 go_wp2_with fail
 go_loopw [21] (fun vi wr=>∃ (k:Nat) (a1:Option Addr) (c1:Nat) (a2:Option Addr) (c2:Nat),k≤14∧vi=.int .i64 k∧Hid (SeR w wr nm cu jt k k a1 c1 a2 c2)) (fun vi _=>14 - (intOf vi).toNat)
 case atStart=>
  refine ⟨0,none,0,none,0,Nat.zero_le _,rfl,Lib.hid ⟨((((Keeps.refl w).alloc _).alloc _).alloc _).alloc _,(((RowB.new w 106 [.string ⟨#[]⟩,.string ⟨#[]⟩,.slice none 0 0,.slice none 0 0,.bool false]).alloc _).alloc _).alloc _,?_,?_,?_,World.ownsRow_nil _ _ _ _,World.ownsRow_nil _ _ _ _,Sep.nil _,by simp⟩⟩
  ·have:=((RowB.new (w.alloc (.cells #[.string ⟨#[]⟩,.string ⟨#[]⟩,.slice none 0 0,.slice none 0 0,.bool false] 106)) 106 [.string nm,.string cu,.slice none 0 0,.slice none 0 0,.bool jt]).alloc (.cells (seK.map (Value.int .i64)).toArray 3)).alloc (.cells (seT.map (Value.int .i64)).toArray 3)
   rw [World.size_alloc] at this
   exact this
  ·have:=Sl.lit ((w.alloc (.cells #[.string ⟨#[]⟩,.string ⟨#[]⟩,.slice none 0 0,.slice none 0 0,.bool false] 106)).alloc (.cells #[.string nm,.string cu,.slice none 0 0,.slice none 0 0,.bool jt] 106)) 1 14 (seK.map (Value.int .i64)) 3 rfl (by omega)
   simp only [World.size_alloc] at this
   exact Sl.keeps this ((Keeps.refl _).alloc _)
  ·have:=Sl.lit (((w.alloc (.cells #[.string ⟨#[]⟩,.string ⟨#[]⟩,.slice none 0 0,.slice none 0 0,.bool false] 106)).alloc (.cells #[.string nm,.string cu,.slice none 0 0,.slice none 0 0,.bool jt] 106)).alloc (.cells (seK.map (Value.int .i64)).toArray 3)) 1 14 (seT.map (Value.int .i64)) 3 rfl (by omega)
   simp only [World.size_alloc] at this
   exact this
 case round=>
  obtain ⟨k,a1,c1,a2,c2,hk,rfl,HS⟩:=hrel
  by_cases hlt:k < 14
  ·have hix1:=Sl.at1 HS.out.lk Tryz.underlying69 Tryz.sizeOf3 k hlt
   have hix2:=Sl.at1 HS.out.ll Tryz.underlying69 Tryz.sizeOf3 k hlt
   have hK:k < seK.length:=hlt
   have hT:k < seT.length:=hlt
   obtain ⟨kd,hkd⟩:∃ q,seK[k]'hK=q:=⟨_,rfl⟩
   obtain ⟨td,hto⟩:∃ q,seT[k]'hT=q:=⟨_,rfl⟩
   have c1k:=Sl.cell HS.out.lk k (.int .i64 kd) (by rw [List.getElem?_map,List.getElem?_eq_getElem hK,hkd];rfl)
   have c2k:=Sl.cell HS.out.ll k (.int .i64 td) (by rw [List.getElem?_map,List.getElem?_eq_getElem hT,hto];rfl)
   simp only [Nat.zero_add] at c1k c2k hix1 hix2
   have HSF:Hid ((saF k).cells=[.int .i64 (10 * ((k:Int)+1)),.int .i64 kd,.int .i64 0,.int .i64 0]):=Lib.hid (by unfold saF;rw [List.getD_eq_getElem?_getD,List.getElem?_eq_getElem hK,hkd];rfl)
   have HLF:Hid ((slF k).cells=[.int .i64 (10 * ((k:Int)+1)),.int .i64 td,.int .i64 (-25567)]):=Lib.hid (by unfold slF;rw [List.getD_eq_getElem?_getD,List.getElem?_eq_getElem hT,hto];rfl)
   have HTD:Hid ((seT.map (Value.int .i64))[k]?=some (.int .i64 td)):=Lib.hid (by rw [List.getElem?_map,List.getElem?_eq_getElem hT,hto];rfl)
   have hw1:wrap64 (10 * ((k:Int)+1))=10 * ((k:Int)+1):=IntWalk.wrap64_in _ (by omega)
   have b2:=RowB.cell HS.out.box 2 _ rfl
   have hzb:=World.block_lt_of_cell? _ _ b2
   clear hkd hto hK hT
   go_upto_region 9 with (at_builtin;(refine wpList_app_rawR elemAc rfl (.tmp 30) (.tmp 34) rfl (.slice a1 k c1) k _ rfl (w.heap.size+4) HS.out.o1 HS.out.sz [.int .i64 (10 * ((k:Int)+1)),.int .i64 kd,.int .i64 0,.int .i64 0] _ 1 rfl rfl rfl (Acc.one ⟨10 * ((k:Int)+1),kd,0,0⟩) (by omega) (by omega) ?_);intro v' w9 hown' hg hat;obtain ⟨a9,c9,b9,rfl,_⟩:=Sl.own hown';have HSA:=Lib.hid (HS.out.step1 (a9:=a9) (c9:=c9) (by rw [HSF.out];exact hown') hg hat);have rb:=(HS.out.box.alloc (.cells #[.int .i64 (10 * ((k:Int)+1)),.int .i64 kd,.int .i64 0,.int .i64 0] 68)).kept hg (fun e=>by have:=(HS.out.o1.lt _ e.symm).1;omega);have x2:=RowB.cell rb 2 _ rfl;have y2:=RowB.frozen rb 2;clear hown' hg hat rb)
   obtain ⟨wA,hwA⟩:∃ wA,w9.setCell ⟨w.heap.size+1,2,none⟩ (.slice a9 (k+1) c9)=wA:=⟨_,rfl⟩
   rw [hwA] at HSA ⊢
   clear hwA x2 y2 b2 c1k c2k hzb
   have b3:=RowB.cell HSA.out.box 3 _ rfl
   have c2k:=Sl.cell HSA.out.ll k (.int .i64 td) HTD.out
   simp only [Nat.zero_add] at c2k
   have hzb:=World.block_lt_of_cell? _ _ b3
   have hsa:=HSA.out.sz
   simp only at hzb
   go_region_law (refine step_all_raw elemLk (by rfl) (.tmp 38) (.tmp 45) (by rfl) (.slice a2 k c2) k _ (by rfl) (w.heap.size+4) (by exact HSA.out.drew.o2.alloc _) (by first | omega | (simp;omega)) _ 1 1 _ 0 [.int .i64 (10 * ((k:Int)+1)),.int .i64 td,.int .i64 (-25567)] (by rfl) (by exact Sl.block rfl (fun j u hj=>by rcases j with _ | _ | _ | j <;> simp at hj <;> subst hj <;> go_simp)) (by intro u hu;simp only [List.mem_cons,List.not_mem_nil,or_false] at hu;rcases hu with rfl | rfl | rfl <;> rfl) (by omega) (by omega) ?_;intro v6 w6 hown6 hg6 hat6;obtain ⟨a8,c8,b8,rfl,_⟩:=Sl.own hown6;have HSB:=Lib.hid (HSA.out.drew.step2 (a9:=a8) (c9:=c8) (by rw [HLF.out];exact hown6) hg6 (by simpa using hat6));have rb:=(HSA.out.drew.box.alloc (.cells #[.int .i64 (10 * ((k:Int)+1)),.int .i64 td,.int .i64 (-25567)] 162)).kept hg6 (fun e=>by have:=(HSA.out.drew.o2.lt _ e.symm).1;omega);have x3:=RowB.cell rb 3 _ rfl;have y3:=RowB.frozen rb 3;clear hown6 hg6 hat6 rb)
   all_goals
    go_wp2_with fail
    go_roundw
    case rel=>exact ⟨k+1,_,_,_,_,hlt,by go_num,HSB⟩
    case measure=>simp [intOf];omega
  ·obtain rfl:k=14:=by omega
   have x0:=RowB.cell HS.out.box 0 _ rfl
   have x1:=RowB.cell HS.out.box 1 _ rfl
   have x2:=RowB.cell HS.out.box 2 _ rfl
   have x3:=RowB.cell HS.out.box 3 _ rfl
   have x4:=RowB.cell HS.out.box 4 _ rfl
   have z0:=RowB.cell HS.out.z6 0 _ rfl
   have z1:=RowB.cell HS.out.z6 1 _ rfl
   have z2:=RowB.cell HS.out.z6 2 _ rfl
   have z3:=RowB.cell HS.out.z6 3 _ rfl
   have z4:=RowB.cell HS.out.z6 4 _ rfl
   have y0:=RowB.frozen HS.out.z6 0
   have y1:=RowB.frozen HS.out.z6 1
   have y2:=RowB.frozen HS.out.z6 2
   have y3:=RowB.frozen HS.out.z6 3
   have y4:=RowB.frozen HS.out.z6 4
   go_wp2_with fail
   refine bodyPost_ret (results_row1 rfl _ _ w.heap.size [.string nm,.string cu,.slice a1 14 c1,.slice a2 14 c2,.bool jt] _ rfl (RowB.range (((((HS.out.z6.set 0 _).set 1 _).set 2 _).set 3 _).set 4 _)) Tryz.underlying106 rfl entSz) rfl ?_
   exact ⟨a1,c1,a2,c2,rfl,own_mono (own_row5E HS.out.o1 (by omega)) (by omega),own_mono (own_row5E HS.out.o2 (by omega)) (by omega),keeps_row5E HS.out.kp (Nat.le_refl _) _ _ _ _ _⟩
end Go.Proofs.YtoaidbhiciaeaaaGreat

end
