/- Walks and plain facts that the claim rests on (DaysW). No condition. -/
import Derived.Test.YtoaidbhiciaeaaaGreatPo08
import Derived.Test.YtoaidbhiciaeaaaGreatPo21
set_option linter.unusedSimpArgs false
set_option linter.unusedVariables false
set_option maxHeartbeats 16000000
section
namespace Go.Proofs.YtoaidbhiciaeaaaGreat
open Go.RowKit Go.Shelf
attribute [local go_sem] Oper.semAt_some
theorem grownBy_of_keeps {W W':World} (h:Keeps W W'):W.grownBy W' none:=⟨h.os,h.tape,h.output,h.size,fun k hk _=>h.block k hk⟩
theorem KeepBut.keeps {N lo hi:Nat} {A B C:World} (h:KeepBut N lo hi A B) (hN:N≤B.heap.size) (k:Keeps B C):KeepBut N lo hi A C:=
 ⟨Nat.le_trans h.size k.size,fun i h1 h2=>(k.block i (by omega)).trans (h.same i h1 h2)⟩
theorem Hols.of_cells {w w':World} {ao:Option Addr} {l:List Hol} {cap b o:Nat} (h:Hols w ao l cap b o) (hc:∀ p v,w.cell? p=some v→w'.cell? p=some v):Hols w' ao l cap b o:=
 ⟨h.len,h.le,h.nocap,h.cap,h.addr,fun j u hu=>hc _ _ (Sl.cell h j u hu)⟩
structure KeepTy (N lo hi:Nat) (ty:TypeId) (A C:World):Prop where
 but:KeepBut N lo hi A C
 other:∀ k cs t fr,A.heap[k]?=some (.cells cs t fr)→t≠ty→(k < lo∨hi≤k)→C.heap[k]?=A.heap[k]?
section
variable {N lo hi:Nat} {ty:TypeId} {A B C:World}
theorem KeepTy.refl (N lo hi:Nat) (ty:TypeId) (A:World):KeepTy N lo hi ty A A:=⟨KeepBut.refl _ _ _ _,fun _ _ _ _ _ _ _=>rfl⟩
theorem KeepTy.trans (h:KeepTy N lo hi ty A B) (k:KeepTy N lo hi ty B C):KeepTy N lo hi ty A C:=
 ⟨h.but.trans k.but,fun i cs t fr h1 h2 h3=>by
  have e:=h.other i cs t fr h1 h2 h3
  exact (k.other i cs t fr (e.trans h1) h2 h3).trans e⟩
theorem KeepTy.keeps (h:KeepTy N lo hi ty A B) (hN:N≤B.heap.size) (k:Keeps B C):KeepTy N lo hi ty A C:=
 h.trans ⟨(KeepBut.refl N lo hi B).keeps hN k,fun i cs t fr h1 _ _=>k.block i (Array.getElem?_eq_some_iff.1 h1).1⟩
theorem KeepTy.setBox (h:KeepTy N lo hi ty A B) {p:Addr} (hp:lo≤p.block) (hq:p.block < hi) (v:Value):KeepTy N lo hi ty A (B.setCell p v):=
 h.trans ⟨(KeepBut.refl N lo hi B).setCell hp hq v,fun i cs t fr _ _ h3=>Below.heap_setCell B p v i (by omega)⟩
theorem KeepTy.putObj (W:World) (l:Nat) (o o':Obj) (hl:N≤l) (ho:W.heap[l]?=some o) (hc:o.isCells=false):KeepTy N lo hi ty W (W.putObj l o'):=
 ⟨KeepBut.putObj W l o' hl,fun k cs t fr h1 _ _=>World.putObj_heap_other (fun e=>by subst e;rw [ho] at h1;cases h1;cases hc)⟩
theorem KeepTy.grown (h:KeepTy N lo hi ty A B) {row:Option Nat} (hg:B.grownBy C row) (hN:N≤B.heap.size) (hr:∀ g,row=some g→N≤g∧∃ cs fr,B.heap[g]?=some (.cells cs ty fr)):KeepTy N lo hi ty A C:=
 h.trans ⟨⟨hg.size,fun k h1 _=>hg.block k (by omega) (fun e=>by have:=(hr k e.symm).1;omega)⟩,fun k cs t fr h1 h2 _=>hg.block k (Array.getElem?_eq_some_iff.1 h1).1 (fun e=>by
  obtain ⟨_,cs2,fr2,h4⟩:=hr k e.symm
  rw [h1] at h4
  cases h4
  exact h2 rfl)⟩
theorem KeepTy.own {base e size n:Nat} {v:Value} {xs:List Value} (h:KeepTy N lo hi ty A B) (hb:hi≤base) (he:e≠ty) (ho:A.ownsRow base e size v n xs):B.ownsRow base e size v n xs:=by
 refine ⟨ho.1,?_⟩
 rcases ho.2 with hn | ⟨g,cap,cur,hv,hbg,hg,rest⟩
 ·exact .inl hn
 ·exact .inr ⟨g,cap,cur,hv,hbg,(h.other g _ _ _ hg he (.inr (by omega))).trans hg,rest⟩
end
abbrev VDay:Type:={d:Int // dateB d=true}
def vdays (xs:List Int):List VDay:=xs.filterMap fun d=>if h:dateB d=true then some ⟨d,h⟩ else none
theorem vdays_val:∀ {xs:List Int},(∀ d∈xs,dateB d=true)→(vdays xs).map (·.1)=xs
 | [],_=>rfl
 | d :: xs,h=>by
  have h1:=h d (by simp)
  have h2:=vdays_val fun e he=>h e (List.mem_cons_of_mem d he)
  unfold vdays at h2 ⊢
  rw [List.filterMap_cons]
  simp only [h1,dif_pos]
  rw [List.map_cons,h2]
theorem vdays_snoc {xs:List Int} {d:Int} (h:dateB d=true):vdays (xs ++ [d])=vdays xs ++ [⟨d,h⟩]:=by simp [vdays,h]
def sdaysK (xs:List Int) (k:Nat):List Int:=sdays (xs.take k)
theorem sdaysK_zero (xs:List Int):vdays (sdaysK xs 0)=[⟨-25567,rfl⟩]:=by simp [sdaysK,sdays,vdays,show dateB (-25567)=true from rfl]
theorem sdaysK_yes {xs:List Int} {k:Nat} (hk:k < xs.length) (h:-25567 < xs[k]) (hd:dateB xs[k]=true):vdays (sdaysK xs (k+1))=vdays (sdaysK xs k) ++ [⟨xs[k],hd⟩]:=by
 unfold sdaysK sdays
 rw [take_snoc _ _ hk,List.filter_append]
 have:List.filter (fun d=>decide (-25567 < d)) [xs[k]]=[xs[k]]:=by simp [h]
 rw [this,← List.cons_append,vdays_snoc hd]
theorem sdaysK_no {xs:List Int} {k:Nat} (hk:k < xs.length) (h:¬ -25567 < xs[k]):sdaysK xs (k+1)=sdaysK xs k:=by
 unfold sdaysK sdays
 rw [take_snoc _ _ hk,List.filter_append]
 simp [h]
theorem sdaysK_all (xs:List Int):sdaysK xs xs.length=sdays xs:=by unfold sdaysK;rw [List.take_length]
theorem sdaysK_len (xs:List Int) (k:Nat) (hk:k≤xs.length):(vdays (sdaysK xs k)).length≤k+1:=by
 refine Nat.le_trans (List.length_filterMap_le _ _) ?_
 unfold sdaysK sdays
 rw [List.length_cons]
 have:=List.length_filter_le (fun d=>decide (-25567 < d)) (xs.take k)
 rw [List.length_take] at this
 omega
theorem sdaysK_yes' {xs:List Int} {k:Nat} (hk:k < xs.length) (h:-25567 < xs[k]):sdaysK xs (k+1)=sdaysK xs k ++ [xs[k]]:=by
 unfold sdaysK sdays
 rw [take_snoc _ _ hk,List.filter_append]
 simp [h]
theorem sdaysK_len' (xs:List Int) (k:Nat) (hk:k≤xs.length):(sdaysK xs k).length≤k+1:=by
 unfold sdaysK sdays
 rw [List.length_cons]
 have:=List.length_filter_le (fun d=>decide (-25567 < d)) (xs.take k)
 rw [List.length_take] at this
 omega
theorem asc_len:∀ {xs ys:List Int},xs.Pairwise (· < ·)→(∀ x∈xs,x∈ys)→xs.length≤ys.length
 | [],_,_,_=>Nat.zero_le _
 | x :: xs,ys,h,hs=>by
  rw [List.pairwise_cons] at h
  have hx:=hs x (by simp)
  have h1:=asc_len (ys:=ys.erase x) h.2 fun y hy=>(List.mem_erase_of_ne (by have:=h.1 y hy;omega)).2 (hs y (by simp [hy]))
  rw [List.length_erase_of_mem hx] at h1
  have h2:0 < ys.length:=List.length_pos_of_mem hx
  rw [List.length_cons]
  omega
theorem IsDates.len_le {l:List Hol} {xs:List Int} (h:IsDates l xs):xs.length≤l.length:=by
 have:=asc_len (ys:=l.map Hol.date) h.1 fun x hx=>by
  obtain ⟨y,hy,rfl⟩:=(h.2 x).1 hx
  exact List.mem_map.2 ⟨y,hy,rfl⟩
 simpa using this
theorem days_in (F:Fence) (n:Nat) (h1:F.fn 177) (hro:F.round=none) (ao:Option Addr) (len cap:Nat) (w:World) :
  CallsIn F n Tryz.prog 177 #[.slice ao len cap] w fun en w'=>en=.returned (.func (.func 185) #[] #[.pointer (some ⟨w.heap.size,0,none⟩)])∧
   w'=w.alloc (.cells #[.slice ao len cap] 32):=by
 refine callsIn_of_wp Tryz.func177 rfl h1 ?_ hro
 simp only [Tryz.ntmps177,List.size_toArray,List.length_cons,List.length_nil,Nat.reduceAdd,Nat.reduceSub,Array.replicate_succ,Array.replicate_zero,List.push_toArray,List.append_toArray,List.nil_append,List.cons_append]
 gi_wp2
 go_ret
 exact ⟨rfl,rfl⟩
set_option maxRecDepth 100000 in
theorem days1_in (n':Nat) (hn':2≤n') (l B0 N0 lo hi:Nat) (ty:TypeId) (hty:3≠ty) (ao:Option Addr) (hs:List Hol) (cap b o:Nat) (hlen:hs.length≤900) (hok:∀ x∈hs,I64 x.date) (hdt:∀ x∈hs,dateB x.date=true) (J Jx:List VDay→World→Prop) (wb:World) (hR:Hols wb ao hs cap b o)
  (hB0:B0 < N0) (hhi:hi≤B0) (hlo:wb.heap.size≤lo) (hlN:lo≤N0)
  (hY:∀ pre (x:VDay) W,J pre W→pre.length < hs.length+1→YieldAt Fence.wide (n' - 1) Tryz.prog l #[.int .i64 x.1] W fun en W'=>
   (en=.returned (.bool true)∧J (pre ++ [x]) W'∧KeepTy N0 lo hi ty W W')∨(en=.returned (.bool false)∧Jx (pre ++ [x]) W'))
  (W:World) (hJ:AbidesFrom W.heap.size J) (hN:N0≤W.heap.size) (hk:Keeps wb W) (c0:W.cell? ⟨B0,0,none⟩=some (.slice ao hs.length cap)) (h0:J [] W) :
  CallsIn Fence.wide n' Tryz.prog 185 #[.func (.yield l) #[] #[],.pointer (some ⟨B0,0,none⟩)] W fun en W'=>(∃ v,en=.returned v)∧
   ((∃ ys,(∃ xs,IsDates hs xs∧ys=vdays (sdays xs))∧J ys W')∨(∃ pre,True∧Jx pre W')):=by
 have HR:=Lib.hid hR
 have HY:=Lib.hid hY
 have HO:=Lib.hid hok
 have HK:=Lib.hid hk
 have HJ:=Lib.hid hJ
 have HDT:=Lib.hid hdt
 have HRW:Hid (∀ W',KeepBut N0 lo hi W W'→Hols W' ao hs cap b o):=Lib.hid (fun W' h=>Hols.of_cells HR.out fun p v hp=>h.cell (by have:=World.block_lt_of_cell? _ _ hp;omega) (.inl (by have:=World.block_lt_of_cell? _ _ hp;omega)) (HK.out.cell hp))
 have hfv:Fence.wide.fn 67:=trivial
 have hd1:1≤n':=by omega
 obtain ⟨fn0,tmps0,assign0,body0,hy0,hRd0⟩:=HY.out [] ⟨-25567,rfl⟩ W h0 (by simp)
 have HRd0:=Lib.hid hRd0
 have HC0:=Lib.hid c0
 clear hR hY hok hk hJ hRd0 c0 h0 hdt
 refine callsIn_of_wp Tryz.func185 rfl trivial ?_ rfl
 simp only [Tryz.ntmps185,List.size_toArray,List.length_cons,List.length_nil,Nat.reduceAdd,Nat.reduceSub,Array.replicate_succ,Array.replicate_zero,List.push_toArray,List.append_toArray,List.nil_append,List.cons_append]
 gi_wp2
 first | refine HRd0.out.mono ?_ | refine ⟨fun _=>by omega,HRd0.out.mono ?_⟩
 rintro en W3 (⟨rfl,hJ3,hk3⟩ | ⟨rfl,hJx3⟩)
 ·have c3:=hk3.but.cell (p:=⟨B0,0,none⟩) hB0 (.inr hhi) HC0.out
  have hsz3:=hk3.but.size
  have HD:=Lib.hid (hdatesO_any ao hs cap b o W3 (HRW.out _ hk3.but) (by omega) HO.out)
  have HJ3:=Lib.hid hJ3
  have HK3:=Lib.hid hk3
  clear hJ3 hk3 hy0 HRd0
  gi_wp2_with (gi_at_call 67;refine (callsIn_wide.2 HD.out).mono ?_;rintro en w4 ⟨v4,xs,rfl,hv4,hd4,hk4⟩;obtain ⟨ao4,cap4,b4,rfl,hs4⟩:=Sl.own hv4;have HV4:=Lib.hid hv4;have HD4:=Lib.hid hd4;have K4:=Lib.hid hk4;have hc4:=hs4.cap;have hl4:=hs4.le;clear hs4 hd4 hk4 hv4)
  have hxl:=HD4.out.len_le
  have hsz4:=K4.out.size
  have HVD:Hid (∀ k (h:k < xs.length),dateB xs[k]=true):=Lib.hid (fun k h=>by
   obtain ⟨x,hx,he⟩:=(HD4.out.2 xs[k]).1 (List.getElem_mem h)
   rw [← he];exact HDT.out x hx)
  have HJ4:Hid (J (vdays (sdaysK xs 0)) w4):=Lib.hid (by rw [sdaysK_zero];exact HJ.out _ _ _ none HJ3.out (grownBy_of_keeps K4.out) (fun r e=>by cases e))
  gi_loopw [11] (fun vi wr=>∃ k:Nat,k≤xs.length∧vi=.int .i64 k∧Hid (J (vdays (sdaysK xs k)) wr∧wr.ownsRow W3.heap.size 3 1 (.slice ao4 xs.length cap4) xs.length (xs.map (.int .i64))∧W3.heap.size≤wr.heap.size)) (fun vi _=>xs.length - (intOf vi).toNat)
  case atStart=>exact ⟨0,Nat.zero_le _,rfl,Lib.hid ⟨HJ4.out,HV4.out,hsz4⟩⟩
  case round=>
   obtain ⟨k,hk,rfl,HW⟩:=hrel
   by_cases hlt:k < xs.length
   ·obtain ⟨ao5,cap5,b5,e5,hs5⟩:=Sl.own HW.out.2.1
    simp only [Value.slice.injEq] at e5
    obtain ⟨rfl,_,rfl⟩:=e5
    have hix:=hs5.at1 Tryz.underlying69 Tryz.sizeOf3 k hlt
    have ck:=hs5.int k hlt
    simp only [Nat.zero_add] at hix ck
    by_cases hgt:-25567 < xs[k]
    ·have hgt':decide (-25567 < xs[k])=true:=decide_eq_true hgt
     obtain ⟨fn,tmps,assign,body,hy,hRd⟩:=HY.out _ ⟨xs[k],HVD.out k hlt⟩ _ HW.out.1 (by have:=sdaysK_len xs k hk;omega)
     have HRd:=Lib.hid hRd
     have HNX:=Lib.hid (sdaysK_yes hlt hgt (HVD.out k hlt))
     clear hRd hs5
     gi_wp2
     first | refine HRd.out.mono ?_ | refine ⟨fun _=>by omega,HRd.out.mono ?_⟩
     rintro en W5 (⟨rfl,hJ5,hk5⟩ | ⟨rfl,hJx5⟩)
     ·have HW5:Hid (J (vdays (sdaysK xs (k+1))) W5∧W5.ownsRow W3.heap.size 3 1 (.slice ao4 xs.length cap4) xs.length (xs.map (.int .i64))∧W3.heap.size≤W5.heap.size):=Lib.hid ⟨by rw [HNX.out];exact hJ5,hk5.own (by omega) hty HW.out.2.1,Nat.le_trans HW.out.2.2 hk5.but.size⟩
      clear hJ5 hk5
      gi_wp2
      go_roundw
      case rel=>exact ⟨k+1,by omega,by go_num,HW5⟩
      case measure=>simp [intOf];omega
     ·gi_wp2
      refine bodyPost_ret (results_none rfl _ _ _) rfl ?_
      exact ⟨⟨_,rfl⟩,.inr ⟨_,trivial,hJx5⟩⟩
    ·have hgt':decide (-25567 < xs[k])=false:=decide_eq_false hgt
     have HNX:=Lib.hid (sdaysK_no hlt hgt)
     clear hs5
     gi_wp2
     refine ⟨fun _ h=>(by cases h),?_⟩
     gi_wp2
     go_roundw
     case rel=>exact ⟨k+1,by omega,by go_num,by rw [HNX.out];exact HW⟩
     case measure=>simp [intOf];omega
   ·obtain rfl:k=xs.length:=by omega
    have HX:Hid (J (vdays (sdays xs)) wr):=Lib.hid (by rw [← sdaysK_all];exact HW.out.1)
    gi_wp2
    go_end0
    exact ⟨⟨_,rfl⟩,.inl ⟨_,⟨_,HD4.out,rfl⟩,HX.out⟩⟩
 ·gi_wp2
  refine bodyPost_ret (results_none rfl _ _ _) rfl ?_
  exact ⟨⟨_,rfl⟩,.inr ⟨_,trivial,hJx3⟩⟩
theorem days_stops (m:Nat) (hm:2≤m) (B0 lo hi:Nat) (ty:TypeId) (hty:3≠ty) (ao:Option Addr) (hs:List Hol) (cap b o:Nat) (hlen:hs.length≤900) (hok:∀ x∈hs,I64 x.date) (hdt:∀ x∈hs,dateB x.date=true) (wb:World) (hR:Hols wb ao hs cap b o) (w:World)
  (hB0:B0 < w.heap.size) (hhi:hi≤B0) (hlo:wb.heap.size≤lo) (hlN:lo≤w.heap.size) (hk:Keeps wb w) (c0:w.cell? ⟨B0,0,none⟩=some (.slice ao hs.length cap)) :
  SeqStopsK Fence.wide m Tryz.prog 185 #[.pointer (some ⟨B0,0,none⟩)] (fun x:VDay=>#[.int .i64 x.1]) (KeepTy w.heap.size lo hi ty) (fun ys=>∃ xs,IsDates hs xs∧ys=vdays (sdays xs)) (fun _=>True) (hs.length+1) w:=
 fun l J Jx W hW hJ hJx hY h0=>
  days1_in m hm l B0 w.heap.size lo hi ty hty ao hs cap b o hlen hok hdt J Jx wb hR hB0 hhi hlo hlN (fun pre x W1 hj hl=>hY pre x W1 hj hl) W hJ hW.size (hk.trans hW) ((hW.cell hB0).trans c0) h0
end Go.Proofs.YtoaidbhiciaeaaaGreat

end
