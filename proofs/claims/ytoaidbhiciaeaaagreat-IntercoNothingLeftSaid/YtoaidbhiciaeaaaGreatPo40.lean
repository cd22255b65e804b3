/- Walks and plain facts that the claim rests on (IcT, SortEl). No condition. -/
import Derived.Test.YtoaidbhiciaeaaaGreatPo39
import Derived.Test.YtoaidbhiciaeaaaGreatPo37
import Derived.Shelf.SlGeneric
import Derived.Shelf.SlSortCmp.WholeK
import Derived.Shelf.SlSortCmp.NoneTotal
import Derived.Ground.SlsfProg
import Derived.Test.YtoaidbhiciaeaaaGreatProg
set_option linter.unusedSimpArgs false
set_option linter.unusedVariables false
set_option maxHeartbeats 16000000
section
namespace Go.Proofs.YtoaidbhiciaeaaaGreat
open Go.RowKit Go.Maps
theorem moneyV_any (n:Int) (w:World):Calls Tryz.prog 49 #[.int .i64 n] w fun e w'=>e=.returned (.bool (amtB n))∧w=w':=by
 by_cases h:-1000000000000≤n
 ·go_enter Tryz.func49,Tryz.ntmps49
  go_wp2
  go_ret
  exact ⟨retb (by simp [amtB];omega),rfl⟩
 ·go_enter Tryz.func49,Tryz.ntmps49
  go_wp2
  go_ret
  exact ⟨retb (by simp [amtB];omega),rfl⟩
theorem sortedO_any (b n Bm:Nat) (f:Int→Option Value) (w:World) (hm:w.cell? ⟨Bm,0,none⟩=some (.map (some b))) (h:VMap intK w b n f) (hn:n≤1000000) :
  Calls Tryz.prog 47 #[.func (.func 83) #[] #[.pointer (some ⟨Bm,0,none⟩)]] w fun e w'=>∃ v xs,e=.returned v∧w'.ownsRow w.heap.size 3 1 v xs.length (xs.map (.int .i64))∧KeysAre f xs∧Keeps w w':=by
 obtain ⟨D,ho,hsz,hnd,hmem⟩:=h.keys
 refine (Tryz.sortedKeys48 b n Bm D hold w hm ho (by unfold maxLen;omega) (by omega)).mono fun e w' h=>?_
 obtain ⟨v,ss,rfl,hp,hrow,_,hb⟩:=h
 have hl:(ss.mergeSort (fun x y=>decide (x≤y))).length=ss.length:=List.length_mergeSort _
 exact ⟨v,_,rfl,by rw [hl];exact hrow,sorted_keys hnd hmem hp,hb⟩
def sumM (l:List Itm):Int→Option Value:=fun c=>if c∈l.map Itm.acc then some (.int .i64 (-(accS l c))) else none
def sumN (own:List Itm) (acc:Int):Int→Option Value:=fun c=>if c=acc∨c∈own.map Itm.acc then some (.int .i64 (sumP own acc c)) else none
theorem sumM_nil:sumM []=fun _=>none:=by funext c;simp [sumM]
theorem accS_outT {own:List Itm} {c:Int} (h:c∉own.map Itm.acc):accS own c=0:=by
 induction own with
 | nil=>rfl
 | cons y t ih=>
  rw [List.map_cons,List.mem_cons,not_or] at h
  rw [accS,if_neg (fun e=>h.1 e.symm),ih h.2];rfl
theorem sumM_get (l:List Itm) (c:Int):(sumM l c).getD (.int .i64 0)=.int .i64 (-(accS l c)):=by
 unfold sumM
 by_cases h:c∈l.map Itm.acc
 ·rw [if_pos h];rfl
 ·rw [if_neg h,accS_outT h];rfl
theorem sumM_snoc (l:List Itm) (x:Itm):sumM (l ++ [x]) x.acc=some (.int .i64 (-(accS l x.acc) - x.amt))∧∀ d,d≠x.acc→sumM (l ++ [x]) d=sumM l d:=by
 unfold sumM
 refine ⟨?_,fun d hd=>?_⟩
 ·rw [if_pos (by simp),accS_snoc,if_pos rfl]
  congr 2;omega
 ·have h1:(d∈(l ++ [x]).map Itm.acc)↔d∈l.map Itm.acc:=by simp [hd]
  rw [accS_snoc,if_neg (fun e:x.acc=d=>hd e.symm),Int.add_zero]
  simp only [h1]
theorem sumN_set (own:List Itm) (acc:Int):sumN own acc acc=some (.int .i64 (-(accS own acc)+totS own))∧∀ d,d≠acc→sumN own acc d=sumM own d:=by
 unfold sumN sumM sumP
 refine ⟨?_,fun d hd=>?_⟩
 ·rw [if_pos (.inl rfl),if_pos rfl]
  congr 2;omega
 ·have h1:(d=acc∨d∈own.map Itm.acc)↔d∈own.map Itm.acc:=by simp [hd]
  simp only [h1]
  rw [if_neg hd,Int.zero_sub]
theorem sumN_get {own:List Itm} {acc c:Int} (h:c=acc∨c∈own.map Itm.acc):(sumN own acc c).getD (.int .i64 0)=.int .i64 (sumP own acc c):=by
 unfold sumN;rw [if_pos h];rfl
theorem keysN_eq {own:List Itm} {acc:Int} (ha:I64 acc) (ho:∀ x∈own,I64 x.acc) {xs:List Int} (h:KeysAre (sumN own acc) xs):xs=keysP own acc:=by
 refine asc_ext h.1 (keysL_asc _) fun z=>?_
 rw [h.2]
 unfold keysP sumN
 rw [keysL_mem,List.mem_cons]
 constructor
 ·rintro ⟨_,h2⟩
  by_cases hz:z=acc∨z∈own.map Itm.acc
  ·exact hz
  ·rw [if_neg hz] at h2;cases h2
 ·intro hz
  refine ⟨?_,by rw [if_pos hz];rfl⟩
  rcases hz with e | e
  ·exact e ▸ ha
  ·obtain ⟨x,hx,rfl⟩:=List.mem_map.1 e
   exact ho x hx
theorem elemPrt:ElemOf Tryz.prog 57 63 (.agg #[.int .i64 0,.int .i64 0]) 2 16:=⟨Tryz.underlying57,by kernel_rfl,rfl,by omega⟩
theorem pstSize:(Tryz.prog.info? 59).map (·.size)=some 5:=by kernel_rfl
theorem Prt.one (p:Prt):∀ v∈p.cells,v.oneCell'=true:=by
 intro v hv
 simp only [Prt.cells,List.mem_cons,List.not_mem_nil,or_false] at hv
 rcases hv with rfl | rfl <;> rfl
theorem keeps_row5 {a:World} {W:World} {B:Nat} (h:Keeps a W) (hB:a.heap.size≤B) (u v y z t:Value):Keeps a (((((W.setCell ⟨B,0,none⟩ u).setCell ⟨B,1,none⟩ v).setCell ⟨B,2,none⟩ y).setCell ⟨B,3,none⟩ z).setCell ⟨B,4,none⟩ t):=
 ((keeps_row3 h hB u v y).setCell (p:=⟨B,3,none⟩) hB _).setCell (p:=⟨B,4,none⟩) hB _
theorem own_row5 {W:World} {base e sz n B:Nat} {v a b c d f:Value} {xs:List Value} (h:W.ownsRow base e sz v n xs) (hB:B < base):(((((W.setCell ⟨B,0,none⟩ a).setCell ⟨B,1,none⟩ b).setCell ⟨B,2,none⟩ c).setCell ⟨B,3,none⟩ d).setCell ⟨B,4,none⟩ f).ownsRow base e sz v n xs:=
 ownsRow_setCell_below (ownsRow_setCell_below (own_row3 h hB) hB _) hB _
def TOut (w:World) (q:Bool) (p:Pst) (e:Ending) (w':World):Prop:=∃ v,e=.returned (.tuple #[v,.int .i64 (if q=true then 0 else 2)])∧Keeps w w'∧(q=true→∃ a c,v=.agg #[.int .i64 p.kind,.int .i64 p.ent,.int .i64 p.oth,.int .i64 p.rul,.slice a p.parts.length c]∧w'.ownsRow w.heap.size 63 2 (.slice a p.parts.length c) p.parts.length (p.parts.flatMap Prt.cells))∧(q=false→v=.agg #[.int .i64 0,.int .i64 0,.int .i64 0,.int .i64 0,.slice none 0 0])
structure IctR (w8 w5 wr:World) (X:Nat) (ao:Option Addr) (cap b:Nat) (xs:List Int) (own:List Itm) (acc l0 i0:Int) (k:Nat):Prop where
 kp:Keeps w8 wr
 keys:Sl wr 1 ao xs.length cap b 0 (xs.map (.int .i64))
 box:∃ a c,RowB wr X 59 [.int .i64 3,.int .i64 l0,.int .i64 i0,.int .i64 0,.slice a (partsL own acc (xs.take k)).length c]∧wr.ownsRow w5.heap.size 63 2 (.slice a (partsL own acc (xs.take k)).length c) (partsL own acc (xs.take k)).length ((partsL own acc (xs.take k)).flatMap Prt.cells)
 sz:w5.heap.size≤wr.heap.size
 ok:∀ q∈xs.take k,amtB (sumP own acc q)=true
theorem ict_skip {w8 w5 wr:World} {X:Nat} {ao:Option Addr} {cap b:Nat} {xs:List Int} {own:List Itm} {acc l0 i0:Int} {k:Nat} (H:IctR w8 w5 wr X ao cap b xs own acc l0 i0 k) (hk:k < xs.length) {c:Int} (hc:xs[k]=c) (h0:sumP own acc c=0) (h1:amtB (sumP own acc c)=true):IctR w8 w5 wr X ao cap b xs own acc l0 i0 (k+1):=by
 have hp:partsL own acc (xs.take (k+1))=partsL own acc (xs.take k):=by rw [take_snoc _ k hk,hc,partsL_snoc,if_pos h0]
 refine ⟨H.kp,H.keys,by rw [hp];exact H.box,H.sz,fun q hq=>?_⟩
 rw [take_snoc _ k hk,hc] at hq
 rcases List.mem_append.1 hq with h | h
 ·exact H.ok q h
 ·rw [List.mem_singleton] at h;rw [h];exact h1
theorem ict_step {w8 w5 wr w9:World} {X:Nat} {ao:Option Addr} {cap b:Nat} {xs:List Int} {own:List Itm} {acc l0 i0:Int} {k:Nat} {c:Int} {a9 a10:Option Addr} {n c9 c10:Nat} {o:Obj} (H:IctR w8 w5 wr X ao cap b xs own acc l0 i0 k) (hk:k < xs.length) (hc:xs[k]=c) (h0:sumP own acc c≠0) (h1:amtB (sumP own acc c)=true)
  (hn:(partsL own acc (xs.take k)).length=n) (hown9:wr.ownsRow w5.heap.size 63 2 (.slice a9 n c9) n ((partsL own acc (xs.take k)).flatMap Prt.cells)) (hown':w9.ownsRow w5.heap.size 63 2 (.slice a10 (n+1) c10) (n+1) ((partsL own acc (xs.take k)).flatMap Prt.cells ++ [.int .i64 c,.int .i64 (sumP own acc c)]))
  (hg:(wr.alloc o).grownBy w9 (Value.slice a9 n c9).ownBlock) (h9:RowB w9 X 59 [.int .i64 3,.int .i64 l0,.int .i64 i0,.int .i64 0,.slice a9 n c9]) (hW:w8.heap.size≤X) (hX:X < w5.heap.size) (hb:0 < xs.length→X < b∧b < w5.heap.size) :
  IctR w8 w5 (w9.setCell ⟨X,4,none⟩ (.slice a10 (n+1) c10)) X ao cap b xs own acc l0 i0 (k+1):=by
 obtain ⟨hb1,hb2⟩:=hb (by omega)
 have hkd:Keeps w8 (wr.alloc o):=H.kp.alloc o
 have hp:partsL own acc (xs.take (k+1))=partsL own acc (xs.take k) ++ [⟨c,sumP own acc c⟩]:=by rw [take_snoc _ k hk,hc,partsL_snoc,if_neg h0]
 have hpl:(partsL own acc (xs.take (k+1))).length=n+1:=by rw [hp,List.length_append,hn];rfl
 refine ⟨?_,?_,⟨a10,c10,?_,?_⟩,?_,fun q hq=>?_⟩
 ·exact Keeps.setCell (Below.grown hkd hg hkd.size (fun j hj=>by have:=(hown9.lt j hj).1;omega)) (p:=⟨X,4,none⟩) hW _
 ·refine Sl.grownR (Sl.grownR (Sl.keeps H.keys ((Keeps.refl wr).alloc o)) hg (fun e=>?_)) (grown_set w9 X 4 _) (fun e=>?_)
  ·have:=(hown9.lt b e.symm).1;omega
  ·have:=Option.some.inj e;omega
 ·rw [hpl];exact h9.set 4 _
 ·rw [hpl,hp,List.flatMap_append]
  exact ownsRow_setCell_below hown' hX _
 ·rw [World.size_setCell]
  exact Nat.le_trans H.sz (Nat.le_trans ((Keeps.refl wr).alloc o).size hg.size)
 ·rw [take_snoc _ k hk,hc] at hq
  rcases List.mem_append.1 hq with h | h
  ·exact H.ok q h
  ·rw [List.mem_singleton] at h;rw [h];exact h1
theorem okPs_bad {own:List Itm} {acc c:Int} {xs:List Int} (hx:xs=keysP own acc) {k:Nat} (hk:k < xs.length) (hc:xs[k]=c) (h:amtB (sumP own acc c)=false):okPs own acc=false:=by
 unfold okPs
 rw [← hx]
 exact all_bad hk (by rw [hc];exact h)
theorem keysP_len (own:List Itm) (acc:Int):(keysP own acc).length≤own.length+1:=by
 have h:∀ l:List Int,(keysL l).length≤l.length:=fun l=>by
  induction l with
  | nil=>exact Nat.le_refl _
  | cons x t ih=>
   have:∀ s:List Int,(insK x s).length≤s.length+1:=fun s=>by
    induction s with
    | nil=>exact Nat.le_refl _
    | cons y s ihs=>unfold insK;split <;> (try split) <;> simp <;> omega
   have:=this (keysL t)
   show (insK x (keysL t)).length≤_
   simp only [List.length_cons];omega
 have:=h (acc :: own.map Itm.acc)
 simpa [keysP] using this
set_option maxRecDepth 100000 in
theorem post_any (bv:List Value) (g:Grp) (es:List JV) (hs:List Hol) (ms:List MV) (items:List Itm) (B mb:Nat) (a b:Int) (i0 l0:Int) (own:List Itm) (ao:Option Addr) (cap bo oo:Nat) (w:World) (HF:Fin w B mb bv items a b) (H:BkG w bv g es hs ms) (hro:g.rl.Ok) (HR:Recs w 7 Itm.cells ao own cap bo oo) (hn:own.length≤800) (hA:∀ x∈own,x.OkA) :
  Calls Tryz.prog 27 #[.pointer (some ⟨B,0,none⟩),.agg #[.int .i64 i0,.int .i64 l0,.slice ao own.length cap]] w (TOut w (okE g a ⟨i0,l0,own⟩) (pstE g a ⟨i0,l0,own⟩)):=by
 have hmm:=@run_makeMap Tryz.prog
 obtain ⟨acc,hacc⟩:∃ c,remA g a own=c:=⟨_,rfl⟩
 have HAC:Hid (I64 acc):=Lib.hid (by
  rw [← hacc]
  unfold remA
  split
  ·exact hro ((rolesL g.rl)[13]'(by rw [rolesL_len];omega)) (List.getElem_mem ..)
  ·exact hro ((rolesL g.rl)[6]'(by rw [rolesL_len];omega)) (List.getElem_mem ..))
 have HOE:Hid (okE g a ⟨i0,l0,own⟩=okPs own acc):=Lib.hid (by unfold okE;rw [← hacc])
 have HPE:Hid (pstE g a ⟨i0,l0,own⟩=⟨3,l0,i0,0,partsP own acc⟩):=Lib.hid (by unfold pstE;rw [← hacc])
 have HRM:Hid (∀ W,Keeps w W→Calls Tryz.prog 36 #[.pointer (some ⟨B,0,none⟩),.agg #[.int .i64 i0,.int .i64 l0,.slice ao own.length cap]] W fun e w'=>e=.returned (.tuple #[.int .i64 (totS own),.int .i64 acc])∧Keeps W w'):=Lib.hid (fun W hk=>by
  have:=frem_any bv g es hs ms items B mb a b i0 l0 own ao cap bo oo W (HF.keeps hk) (H.keeps hk) (HR.keeps hk) hn hA
  rw [hacc] at this
  exact this)
 have HAI:Hid (∀ x∈own,I64 x.acc):=Lib.hid (fun x hx=>(hA x hx).1)
 have HAA:=Lib.hid hA
 have HHR:=Lib.hid HR
 have hcap:=Sl.cap HR
 have hle:=Sl.le HR
 have hRb:=totS_small hA (by omega)
 have hNb:=accS_small acc hA (by omega)
 have hkl:=keysP_len own acc
 obtain ⟨N2,hN2⟩:∃ N,-(accS own acc)=N:=⟨_,rfl⟩
 have HS0:=sumN_set own acc
 rw [hN2] at HS0
 obtain ⟨R,hR0⟩:∃ R,totS own=R:=⟨_,rfl⟩
 rw [hR0] at HRM HS0 hRb
 have hw3:wrap64 (N2+R)=N2+R:=IntWalk.wrap64_in _ (by omega)
 have HN2:=Lib.hid hN2
 have HS1:=Lib.hid HS0.1
 have HS2:Hid (∀ d,intK.ok d→d≠acc→sumN own acc d=sumM own d):=Lib.hid (fun d _ hd=>HS0.2 d hd)
 have hk0:Keeps w ((w.alloc (.cells #[.int .i64 i0,.int .i64 l0,.slice ao own.length cap] 83)).alloc (.cells #[.int .i64 0,.int .i64 0,.int .i64 0,.int .i64 0,.slice none 0 0] 59)):=((Keeps.refl w).alloc _).alloc _
 have hb3:RowB ((w.alloc (.cells #[.int .i64 i0,.int .i64 l0,.slice ao own.length cap] 83)).alloc (.cells #[.int .i64 0,.int .i64 0,.int .i64 0,.int .i64 0,.slice none 0 0] 59)) w.heap.size 83 [.int .i64 i0,.int .i64 l0,.slice ao own.length cap]:=(RowB.new w _ _).alloc _
 have hb4:RowB ((w.alloc (.cells #[.int .i64 i0,.int .i64 l0,.slice ao own.length cap] 83)).alloc (.cells #[.int .i64 0,.int .i64 0,.int .i64 0,.int .i64 0,.slice none 0 0] 59)) (w.heap.size+1) 59 [.int .i64 0,.int .i64 0,.int .i64 0,.int .i64 0,.slice none 0 0]:=by
  have:=RowB.new (w.alloc (.cells #[.int .i64 i0,.int .i64 l0,.slice ao own.length cap] 83)) 59 [.int .i64 0,.int .i64 0,.int .i64 0,.int .i64 0,.slice none 0 0]
  rw [World.size_alloc] at this
  exact this
 have hz2:w.heap.size+1+1=((w.alloc (.cells #[.int .i64 i0,.int .i64 l0,.slice ao own.length cap] 83)).alloc (.cells #[.int .i64 0,.int .i64 0,.int .i64 0,.int .i64 0,.slice none 0 0] 59)).heap.size:=by simp
 obtain ⟨W2,hW2⟩:∃ W2,(w.alloc (.cells #[.int .i64 i0,.int .i64 l0,.slice ao own.length cap] 83)).alloc (.cells #[.int .i64 0,.int .i64 0,.int .i64 0,.int .i64 0,.slice none 0 0] 59)=W2:=⟨_,rfl⟩
 rw [hW2] at hk0 hb3 hb4 hz2
 have HK2:=Lib.hid hk0
 have HB3:=Lib.hid hb3
 have HB4:=Lib.hid hb4
 have c2:=RowB.cell (hb3.alloc (.map #[] 0)) 2 _ rfl
 have HM0:Hid (VMap intK (W2.alloc (.map #[] 0)) W2.heap.size 0 (sumM (own.take 0))):=Lib.hid (by rw [List.take_zero,sumM_nil];exact VMap.made intK W2)
 clear HF H hro HR hA hacc hN2 HS0 hR0 hk0 hb3 hb4 hNb
 go_enter Tryz.func27,Tryz.ntmps27
 go_upto_region 1 with fail
 try rw [hW2]
 try rw [hz2]
 clear hW2
 go_wp2_with fail
 go_loopw [18] (fun vi wr=>∃ k:Nat,k≤own.length∧vi=.int .i64 k∧Hid (Keeps W2 wr∧VMap intK wr W2.heap.size k (sumM (own.take k)))) (fun vi _=>own.length - (intOf vi).toNat)
 case atStart=>exact ⟨0,Nat.zero_le _,rfl,Lib.hid ⟨(Keeps.refl W2).alloc _,HM0.out⟩⟩
 case round=>
  obtain ⟨k,hk,rfl,HW⟩:=hrel
  by_cases hlt:k < own.length
  ·have hr:=HHR.out.keeps (HK2.out.trans HW.out.1)
   have hix:=Sl.at hr Tryz.underlying37 Tryz.sizeOf53 k hlt
   obtain ⟨x,hx⟩:∃ x,own[k]=x:=⟨_,rfl⟩
   have c0:=hr.cell Itm.len k hlt 0 (.int .i64 x.ref.e) (by rw [hx];rfl)
   have c1:=hr.cell Itm.len k hlt 1 (.int .i64 x.ref.l) (by rw [hx];rfl)
   have c2:=hr.cell Itm.len k hlt 2 (.int .i64 x.ent) (by rw [hx];rfl)
   have c3:=hr.cell Itm.len k hlt 3 (.int .i64 x.acc) (by rw [hx];rfl)
   have c4:=hr.cell Itm.len k hlt 4 (.int .i64 x.ptn) (by rw [hx];rfl)
   have c5:=hr.cell Itm.len k hlt 5 (.int .i64 x.date) (by rw [hx];rfl)
   have c6:=hr.cell Itm.len k hlt 6 (.int .i64 x.amt) (by rw [hx];rfl)
   rw [Nat.add_zero] at c0
   have hzr:=World.block_lt_of_cell? _ _ c0
   have hxa:=HAA.out x (by rw [← hx];exact List.getElem_mem ..)
   have hNb:=accS_small x.acc (l:=own.take k) (fun q hq=>HAA.out q (List.mem_of_mem_take hq)) (by rw [List.length_take];omega)
   have HXA:=Lib.hid hxa.1
   have hxb:=hxa.2
   have HTK:Hid (own.take (k+1)=own.take k ++ [x]):=Lib.hid (by rw [take_snoc _ _ hlt,hx])
   obtain ⟨N,hN⟩:∃ N,-(accS (own.take k) x.acc)=N:=⟨_,rfl⟩
   have hlk:(Instr.lookup 116 (.map (some W2.heap.size)) (.int .i64 x.acc) false).run Tryz.prog (wr.alloc (.cells #[.int .i64 x.ref.e,.int .i64 x.ref.l,.int .i64 x.ent,.int .i64 x.acc,.int .i64 x.ptn,.int .i64 x.date,.int .i64 x.amt] 53))=.ok (.int .i64 N) (wr.alloc (.cells #[.int .i64 x.ref.e,.int .i64 x.ref.l,.int .i64 x.ent,.int .i64 x.acc,.int .i64 x.ptn,.int .i64 x.date,.int .i64 x.amt] 53)):=by
    have:=(HW.out.2.alloc (.cells #[.int .i64 x.ref.e,.int .i64 x.ref.l,.int .i64 x.ent,.int .i64 x.acc,.int .i64 x.ptn,.int .i64 x.date,.int .i64 x.amt] 53)).look Tryz.underlying116 (fun w=>Tryz.zeroValue3 w) (a:=x.acc) HXA.out _ rfl
    rw [sumM_get,hN] at this
    exact this
   have hw1:wrap64 (N - x.amt)=N - x.amt:=IntWalk.wrap64_in _ (by omega)
   have HN:=Lib.hid hN
   clear hr hx hN hxa hxb hNb
   go_wp2_with (refine wpList_vstore (K:=intK) rfl _ _ _ 116 rfl Tryz.underlying116 W2.heap.size k rfl (HW.out.2.alloc _) (by unfold maxLen;omega) x.acc HXA.out rfl (.int .i64 (N - x.amt)) (congrArg (Value.int .i64) hw1) (sumM (own.take (k+1))) (by rw [HTK.out,(sumM_snoc _ x).1,HN.out]) (fun d _ hd=>by rw [HTK.out];exact (sumM_snoc _ x).2 d hd) ?_;intro w7 hm7 hg7;have HX:Hid (Keeps W2 w7∧VMap intK w7 W2.heap.size (k+1) (sumM (own.take (k+1)))):=Lib.hid ⟨Below.grown (HW.out.1.alloc _) hg7 (HW.out.1.alloc _).size (fun j hj=>by cases hj;exact Nat.le_refl _),hm7⟩;clear hm7 hg7)
   go_roundw
   case rel=>exact ⟨k+1,by omega,by go_num,HX⟩
   case measure=>simp [intOf];omega
  ·obtain rfl:k=own.length:=by omega
   have HVE:Hid (VMap intK wr W2.heap.size own.length (sumM own)):=Lib.hid (by have:=HW.out.2;rwa [List.take_length] at this)
   have x0:=RowB.cell (HB3.out.keeps HW.out.1) 0 _ rfl
   have x1:=RowB.cell (HB3.out.keeps HW.out.1) 1 _ rfl
   have x2:=RowB.cell (HB3.out.keeps HW.out.1) 2 _ rfl
   go_wp2_with (first | (go_at_call 36;(refine (HRM.out _ (HK2.out.trans HW.out.1)).mono ?_);rintro e1 w1 ⟨rfl,hk1⟩;have K1:Hid (Keeps W2 w1):=Lib.hid (HW.out.1.trans hk1);have HV1:=Lib.hid (HVE.out.keeps hk1);have hlk:(Instr.lookup 116 (.map (some W2.heap.size)) (.int .i64 acc) false).run Tryz.prog w1=.ok (.int .i64 N2) w1:=(by have:=HV1.out.look Tryz.underlying116 (fun w=>Tryz.zeroValue3 w) (a:=acc) HAC.out _ rfl;rw [sumM_get,HN2.out] at this;exact this);clear hk1 x0 x1 x2) | (refine wpList_vstore (K:=intK) rfl _ _ _ 116 rfl Tryz.underlying116 W2.heap.size own.length rfl HV1.out (by unfold maxLen;omega) acc HAC.out rfl (.int .i64 (N2+R)) (congrArg (Value.int .i64) hw3) (sumN own acc) HS1.out HS2.out ?_;intro w8 hm8 hg8;have K8:Hid (Keeps W2 w8):=Lib.hid (Below.grown K1.out hg8 K1.out.size (fun j hj=>by cases hj;exact Nat.le_refl _));have HM8:=Lib.hid hm8;have x0:=RowB.cell (HB3.out.keeps K8.out) 0 _ rfl;have x1:=RowB.cell (HB3.out.keeps K8.out) 1 _ rfl;have hz8:=World.block_lt_of_cell? _ _ x0;clear hm8 hg8 hlk) | (go_at_call 48;(refine (keysI_any _ _).mono ?_);rintro e2 w2 ⟨rfl,rfl⟩;simp only [World.size_alloc]) | (go_at_call 47;(refine (sortedO_any W2.heap.size (own.length+1) (w8.heap.size+1) (sumN own acc) _ (by go_simp) ((HM8.out.alloc (.cells #[.int .i64 3,.int .i64 l0,.int .i64 i0,.int .i64 0,.slice none 0 0] 59)).alloc (.cells #[.map (some W2.heap.size)] 116)) (by omega)).mono ?_);rintro e5 w5 ⟨v5,xs,rfl,ho5,hka,hk5⟩;have HXS:=Lib.hid (keysN_eq HAC.out HAI.out hka);obtain ⟨ao5,cap5,b5,rfl,hs5⟩:=Sl.own ho5;have HB5:Hid (0 < xs.length→w8.heap.size < b5∧b5 < w5.heap.size):=Lib.hid (fun hn=>by have:=ho5.lt b5 (by have:=hs5.addr hn;rw [this];rfl);simp only [World.size_alloc] at this;omega);have hcap5:=Sl.cap hs5;have hle5:=Sl.le hs5;have HS5:=Lib.hid hs5;have HZ5:=hk5.size;simp only [World.size_alloc] at HZ5;have HB9:=Lib.hid (((RowB.new w8 59 [.int .i64 3,.int .i64 l0,.int .i64 i0,.int .i64 0,.slice none 0 0]).alloc (.cells #[.map (some W2.heap.size)] 116)).keeps hk5);have K5:Hid (Keeps w8 w5):=Lib.hid ((((Keeps.refl w8).alloc (.cells #[.int .i64 3,.int .i64 l0,.int .i64 i0,.int .i64 0,.slice none 0 0] 59)).alloc (.cells #[.map (some W2.heap.size)] 116)).trans hk5);clear ho5 hs5 hk5 hka x0 x1 hz8))
   have HXL:Hid (xs.length≤801):=Lib.hid (by rw [HXS.out];omega)
   have hxl:=HXL.out
   have HFA:Hid (∀ x∈own,x.OkA):=HAA
   have hlt9:w8.heap.size < w5.heap.size:=by omega
   go_loopw [50] (fun vi wr=>∃ k:Nat,k≤xs.length∧vi=.int .i64 k∧Hid (IctR w8 w5 wr w8.heap.size ao5 cap5 b5 xs own acc l0 i0 k)) (fun vi _=>xs.length - (intOf vi).toNat)
   case atStart=>exact ⟨0,Nat.zero_le _,rfl,Lib.hid ⟨K5.out,HS5.out,⟨none,0,by rw [List.take_zero];exact HB9.out,by rw [List.take_zero];exact World.ownsRow_nil _ _ _ _⟩,Nat.le_refl _,by simp⟩⟩
   case round=>
    obtain ⟨k,hk,rfl,HW2⟩:=hrel
    by_cases hlt2:k < xs.length
    ·have hsl:=HW2.out.keys
     have hix:=Sl.at1 hsl Tryz.underlying69 Tryz.sizeOf3 k hlt2
     obtain ⟨c,hc⟩:∃ c,xs[k]=c:=⟨_,rfl⟩
     have ck:=Sl.int hsl k hlt2
     rw [hc] at ck
     simp only [Nat.zero_add] at ck hix
     have HC:=Lib.hid hc
     have HIN:Hid (c=acc∨c∈own.map Itm.acc):=Lib.hid (by
      have hm:c∈xs:=by rw [← hc];exact List.getElem_mem ..
      rw [HXS.out] at hm
      unfold keysP at hm
      rwa [keysL_mem,List.mem_cons] at hm)
     have HCI:Hid (I64 c):=Lib.hid (by
      rcases HIN.out with e | e
      ·rw [e];exact HAC.out
      ·obtain ⟨x,hx,rfl⟩:=List.mem_map.1 e
       exact HAI.out x hx)
     obtain ⟨S,hS⟩:∃ S,sumP own acc c=S:=⟨_,rfl⟩
     have hlk2:(Instr.lookup 116 (.map (some W2.heap.size)) (.int .i64 c) false).run Tryz.prog wr=.ok (.int .i64 S) wr:=by
      have:=(HM8.out.keeps HW2.out.kp).look Tryz.underlying116 (fun w=>Tryz.zeroValue3 w) (a:=c) HCI.out _ rfl
      rw [sumN_get HIN.out,hS] at this
      exact this
     have HSS:=Lib.hid hS
     have HMV:Hid (∀ W,Calls Tryz.prog 49 #[.int .i64 S] W fun e w'=>e=.returned (.bool (amtB S))∧W=w'):=Lib.hid (fun W=>moneyV_any S W)
     clear hsl hc hS
     cases hv:amtB S with
     | false=>
      have HQ:Hid (okE g a ⟨i0,l0,own⟩=false):=Lib.hid (by rw [HOE.out];exact okPs_bad HXS.out hlt2 HC.out (by rw [HSS.out];exact hv))
      rw [hv] at HMV
      clear hv
      have x0:=RowB.cell (HB4.out.keeps (K8.out.trans HW2.out.kp)) 0 _ rfl
      have x1:=RowB.cell (HB4.out.keeps (K8.out.trans HW2.out.kp)) 1 _ rfl
      have x2:=RowB.cell (HB4.out.keeps (K8.out.trans HW2.out.kp)) 2 _ rfl
      have x3:=RowB.cell (HB4.out.keeps (K8.out.trans HW2.out.kp)) 3 _ rfl
      have x4:=RowB.cell (HB4.out.keeps (K8.out.trans HW2.out.kp)) 4 _ rfl
      have y0:=RowB.frozen (HB4.out.keeps (K8.out.trans HW2.out.kp)) 0
      have y1:=RowB.frozen (HB4.out.keeps (K8.out.trans HW2.out.kp)) 1
      have y2:=RowB.frozen (HB4.out.keeps (K8.out.trans HW2.out.kp)) 2
      have y3:=RowB.frozen (HB4.out.keeps (K8.out.trans HW2.out.kp)) 3
      have y4:=RowB.frozen (HB4.out.keeps (K8.out.trans HW2.out.kp)) 4
      go_wp2_with (go_at_call 49;(refine (HMV.out _).mono ?_);rintro e1 w1 ⟨rfl,rfl⟩)
      refine bodyPost_ret (results_row_tmp rfl _ _ (w.heap.size+1) [.int .i64 0,.int .i64 0,.int .i64 0,.int .i64 0,.slice none 0 0] _ rfl (RowB.range ((((((HB4.out.keeps (K8.out.trans HW2.out.kp)).set 0 _).set 1 _).set 2 _).set 3 _).set 4 _)) Tryz.underlying59 rfl pstSize) rfl ?_
      exact ⟨_,by rw [HQ.out];rfl,keeps_row5 (HK2.out.trans (K8.out.trans HW2.out.kp)) (Nat.le_succ _) _ _ _ _ _,(fun h=>absurd (HQ.out.symm.trans h) (by decide)),fun _=>rfl⟩
     | true=>
      have HVT:Hid (amtB (sumP own acc c)=true):=Lib.hid (by rw [HSS.out];exact hv)
      rw [hv] at HMV
      clear hv
      by_cases h0:S=0
      ·have e0:(S != 0)=false:=by simp [h0]
       have HSK:=Lib.hid (ict_skip HW2.out hlt2 HC.out (by rw [HSS.out];exact h0) HVT.out)
       clear h0
       go_wp2_with (go_at_call 49;(refine (HMV.out _).mono ?_);rintro e1 w1 ⟨rfl,rfl⟩)
       go_roundw
       case rel=>exact ⟨k+1,by omega,by go_num,HSK⟩
       case measure=>simp [intOf];omega
      ·have e0:(S != 0)=true:=by simp [h0]
       have HNZ:Hid (sumP own acc c≠0):=Lib.hid (by rw [HSS.out];exact h0)
       clear h0
       have hpl:=partsL_le own acc (xs.take k)
       rw [List.length_take] at hpl
       obtain ⟨n,hnn⟩:∃ n,(partsL own acc (xs.take k)).length=n:=⟨_,rfl⟩
       obtain ⟨a9,c9,hr9,ho9⟩:=HW2.out.box
       rw [hnn] at hr9 ho9 hpl
       have HNN:=Lib.hid hnn
       have hown9:=ho9
       have HR9:=Lib.hid hr9
       have z4:=RowB.cell hr9 4 _ rfl
       have hzx:=World.block_lt_of_cell? _ _ z4
       have hsz9:=HW2.out.sz
       clear hnn hr9 ho9
       go_wp2_with (first | (go_at_call 49;(refine (HMV.out _).mono ?_);rintro e1 w1 ⟨rfl,rfl⟩) | (at_builtin;(refine wpList_app_rawR elemPrt rfl (.tmp 65) (.tmp 71) rfl (.slice a9 n c9) n _ rfl w5.heap.size hown9 hsz9 [.int .i64 c,.int .i64 S] _ 1 rfl rfl rfl (Prt.one ⟨c,S⟩) (by omega) (by omega) ?_);intro v' w9 hown' hg hat;obtain ⟨a10,c10,b10,rfl,_⟩:=Sl.own hown';have r9:=(HR9.out.alloc _).kept hg (fun e=>by have:=(hown9.lt _ e.symm).1;omega);have x4:=RowB.cell r9 4 _ rfl;have y4:=RowB.frozen r9 4;have HG:=Lib.hid (And.intro hown' (And.intro hg r9));clear hown' hg hat r9))
       go_roundw
       case rel=>exact ⟨k+1,by omega,by go_num,Lib.hid (ict_step HW2.out hlt2 HC.out HNZ.out HVT.out HNN.out hown9 (by rw [HSS.out];exact HG.out.1) HG.out.2.1 HG.out.2.2 (Nat.le_refl _) hlt9 HB5.out)⟩
       case measure=>simp [intOf];omega
    ·obtain rfl:k=xs.length:=by omega
     obtain ⟨a9,c9,hr9,ho9⟩:=HW2.out.box
     rw [List.take_length] at hr9 ho9
     obtain ⟨n,hnn⟩:∃ n,(partsL own acc xs).length=n:=⟨_,rfl⟩
     rw [hnn] at hr9 ho9
     have z0:=RowB.cell hr9 0 _ rfl
     have z1:=RowB.cell hr9 1 _ rfl
     have z2:=RowB.cell hr9 2 _ rfl
     have z3:=RowB.cell hr9 3 _ rfl
     have z4:=RowB.cell hr9 4 _ rfl
     have x0:=RowB.cell (HB4.out.keeps (K8.out.trans HW2.out.kp)) 0 _ rfl
     have x1:=RowB.cell (HB4.out.keeps (K8.out.trans HW2.out.kp)) 1 _ rfl
     have x2:=RowB.cell (HB4.out.keeps (K8.out.trans HW2.out.kp)) 2 _ rfl
     have x3:=RowB.cell (HB4.out.keeps (K8.out.trans HW2.out.kp)) 3 _ rfl
     have x4:=RowB.cell (HB4.out.keeps (K8.out.trans HW2.out.kp)) 4 _ rfl
     have y0:=RowB.frozen (HB4.out.keeps (K8.out.trans HW2.out.kp)) 0
     have y1:=RowB.frozen (HB4.out.keeps (K8.out.trans HW2.out.kp)) 1
     have y2:=RowB.frozen (HB4.out.keeps (K8.out.trans HW2.out.kp)) 2
     have y3:=RowB.frozen (HB4.out.keeps (K8.out.trans HW2.out.kp)) 3
     have y4:=RowB.frozen (HB4.out.keeps (K8.out.trans HW2.out.kp)) 4
     have HQ:Hid (okE g a ⟨i0,l0,own⟩=true):=Lib.hid (by
      rw [HOE.out]
      unfold okPs
      rw [← HXS.out,List.all_eq_true]
      have:=HW2.out.ok
      rwa [List.take_length] at this)
     have HOW:=Lib.hid ho9
     have HNN:Hid ((partsP own acc).length=n):=Lib.hid (by unfold partsP;rw [← HXS.out];exact hnn)
     have HPP:Hid (partsL own acc xs=partsP own acc):=Lib.hid (by unfold partsP;rw [← HXS.out])
     have hX5:w.heap.size+1 < w5.heap.size:=by have:=K8.out.size;omega
     have hw5:w.heap.size≤w5.heap.size:=by omega
     clear hr9 ho9 hnn
     go_wp2_with fail
     refine bodyPost_ret (results_row_tmp rfl _ _ (w.heap.size+1) [.int .i64 3,.int .i64 l0,.int .i64 i0,.int .i64 0,.slice a9 n c9] _ rfl (RowB.range ((((((HB4.out.keeps (K8.out.trans HW2.out.kp)).set 0 _).set 1 _).set 2 _).set 3 _).set 4 _)) Tryz.underlying59 rfl pstSize) rfl ?_
     exact ⟨_,by rw [HQ.out];rfl,keeps_row5 (HK2.out.trans (K8.out.trans HW2.out.kp)) (Nat.le_succ _) _ _ _ _ _,fun _=>⟨a9,c9,by rw [HPE.out];simp only [HNN.out],by rw [HPE.out];simp only [HNN.out];rw [← HPP.out];exact own_mono (own_row5 HOW.out hX5) hw5⟩,fun h=>absurd (HQ.out.symm.trans h) (by decide)⟩
end Go.Proofs.YtoaidbhiciaeaaaGreat

end
section
namespace Go.Proofs
open Go.Shelf
def Tryz.sortEl_ren:Go.Shelf.Ren:=⟨fun | 6=>44 | 15=>79 | 14=>78 | 28=>126 | 29=>127 | 20=>118 | 21=>119 | 22=>120 | 23=>121 | 24=>122 | 25=>123 | 26=>124 | 27=>125 | 46=>153 | 47=>154 | 48=>155 | 49=>156 | 50=>157 | 57=>179 | n=>n,fun | 22=>80 | 24=>83 | 25=>115 | 3=>3 | 39=>147 | 0=>0 | 53=>189 | 55=>191 | 4=>4 | 46=>183 | 45=>182 | 50=>149 | 5=>5 | 9=>9 | 66=>211 | 70=>215 | 76=>230 | 77=>88 | n=>n,fun | n=>n⟩
theorem Tryz.sortEl:Go.Proofs.SlLaysF0.n6 Tryz.prog Tryz.sortEl_ren:={
 mixed:=by kernel_rfl
 f6:=⟨Tryz.f44.name,by decide,Tryz.func44.trans (congrArg some (by kernel_rfl))⟩
 f14:=⟨Tryz.f78.name,by decide,Tryz.func78.trans (congrArg some (by kernel_rfl))⟩
 f15:=Tryz.func79.trans (congrArg some (by kernel_rfl))
 f20:=⟨Tryz.f118.name,by decide,Tryz.func118.trans (congrArg some (by kernel_rfl))⟩
 f21:=⟨Tryz.f119.name,by decide,Tryz.func119.trans (congrArg some (by kernel_rfl))⟩
 f22:=⟨Tryz.f120.name,by decide,Tryz.func120.trans (congrArg some (by kernel_rfl))⟩
 f23:=⟨Tryz.f121.name,by decide,Tryz.func121.trans (congrArg some (by kernel_rfl))⟩
 f24:=⟨Tryz.f122.name,by decide,Tryz.func122.trans (congrArg some (by kernel_rfl))⟩
 f25:=⟨Tryz.f123.name,by decide,Tryz.func123.trans (congrArg some (by kernel_rfl))⟩
 f26:=⟨Tryz.f124.name,by decide,Tryz.func124.trans (congrArg some (by kernel_rfl))⟩
 f27:=⟨Tryz.f125.name,by decide,Tryz.func125.trans (congrArg some (by kernel_rfl))⟩
 f28:=Tryz.func126.trans (congrArg some (by kernel_rfl))
 f29:=Tryz.func127.trans (congrArg some (by kernel_rfl))
 f46:=⟨Tryz.f153.name,by decide,Tryz.func153.trans (congrArg some (by kernel_rfl))⟩
 f47:=Tryz.func154.trans (congrArg some (by kernel_rfl))
 f48:=Tryz.func155.trans (congrArg some (by kernel_rfl))
 f49:=⟨Tryz.f156.name,by decide,Tryz.func156.trans (congrArg some (by kernel_rfl))⟩
 f50:=⟨Tryz.f157.name,by decide,Tryz.func157.trans (congrArg some (by kernel_rfl))⟩
 f57:=⟨Tryz.f179.name,by decide,Tryz.func179.trans (congrArg some (by kernel_rfl))⟩
 t0:=Tryz.underlying0
 a0:=Tryz.isAgg0
 z0:=Tryz.sizeOf0
 v0:=Tryz.zeroValue0
 t3:=Tryz.underlying3
 a3:=Tryz.isAgg3
 z3:=Tryz.sizeOf3
 v3:=Tryz.zeroValue3
 t4:=Tryz.underlying4
 a4:=Tryz.isAgg4
 z4:=Tryz.sizeOf4
 v4:=Tryz.zeroValue4
 t5:=Tryz.underlying5
 a5:=Tryz.isAgg5
 z5:=Tryz.sizeOf5
 v5:=Tryz.zeroValue5
 t9:=Tryz.underlying9
 a9:=Tryz.isAgg9
 z9:=Tryz.sizeOf9
 v9:=Tryz.zeroValue9
 t22:=Tryz.underlying80
 a22:=Tryz.isAgg80
 z22:=Tryz.sizeOf80
 v22:=Tryz.zeroValue80
 t25:=Tryz.underlying115
 a25:=Tryz.isAgg115
 z25:=Tryz.sizeOf115
 v25:=Tryz.zeroValue115
 t39:=Tryz.underlying147
 a39:=Tryz.isAgg147
 z39:=Tryz.sizeOf147
 v39:=Tryz.zeroValue147
 t45:=Tryz.underlying182
 a45:=Tryz.isAgg182
 z45:=Tryz.sizeOf182
 v45:=Tryz.zeroValue182
 t46:=Tryz.underlying183
 a46:=Tryz.isAgg183
 z46:=Tryz.sizeOf183
 v46:=Tryz.zeroValue183
 t50:=Tryz.underlying149
 a50:=Tryz.isAgg149
 z50:=Tryz.sizeOf149
 v50:=Tryz.zeroValue149
 t53:=Tryz.underlying189
 a53:=Tryz.isAgg189
 z53:=Tryz.sizeOf189
 v53:=Tryz.zeroValue189
 t55:=Tryz.underlying191
 a55:=Tryz.isAgg191
 z55:=Tryz.sizeOf191
 v55:=Tryz.zeroValue191
 t66:=Tryz.underlying211
 a66:=Tryz.isAgg211
 z66:=Tryz.sizeOf211
 v66:=Tryz.zeroValue211
 t70:=Tryz.underlying215
 a70:=Tryz.isAgg215
 z70:=Tryz.sizeOf215
 v70:=Tryz.zeroValue215
 t76:=Tryz.underlying230
 a76:=Tryz.isAgg230
 z76:=Tryz.sizeOf230
 v76:=Tryz.zeroValue230
 t77:=Tryz.underlying88
 a77:=Tryz.isAgg88
 z77:=Tryz.sizeOf88
 v77:=Tryz.zeroValue88 }
end Go.Proofs

end
