/- Walks and plain facts that the claim rests on (CtlRankW, CtlRanks, HolRMat). No condition. -/
import Derived.Test.YtoaidbhiciaeaaaGreatPo16
set_option linter.unusedSimpArgs false
set_option linter.unusedVariables false
set_option maxHeartbeats 16000000
section
namespace Go.Proofs.YtoaidbhiciaeaaaGreat
open Go.RowKit Go.Shelf
attribute [local go_sem] Oper.semAt_some
theorem steps_stops (m:Nat) (hm:2≤m) (B0 lo hi:Nat) (ao:Option Addr) (f:Nat→Nat→Int) (n cap b o:Nat) (hn1:1≤n) (hn:n≤12) (hf:∀ h e,0≤f h e∧f h e≤10000) (wb:World) (hR:Rows wb ao (matF f n) cap b o) (w:World)
  (hB0:B0 < w.heap.size) (hhi:hi≤B0) (hlo:wb.heap.size≤lo) (hlN:lo≤w.heap.size) (hk:Keeps wb w) (c0:w.cell? ⟨B0,0,none⟩=some (.slice ao n cap)) :
  SeqStopsK Fence.wide m Tryz.prog 198 #[.pointer (some ⟨B0,0,none⟩)] (fun x:Nat × Nat=>#[.int .i64 (x.1:Nat),.int .u16 (x.2:Nat)]) (KeepBut w.heap.size lo hi) (StepsS f n) (fun _=>True) n w:=
 fun l J Jx W hW hJ hJx hY h0=>
  steps1_in m hm l B0 w.heap.size lo hi ao f n cap b o hn1 hn hf J Jx wb hR hB0 hhi hlo hlN (fun pre x W1 hj hl=>hY pre x W1 hj hl) W hW.size (hk.trans hW) ((hW.cell hB0).trans c0) h0
def applyS (φ:Nat→Int) (x:Nat × Nat):Nat→Int:=fun e=>if x.2 / 2 ^ e % 2=1 then (x.1:Int) else φ e
def foldS (xs:List (Nat × Nat)):Nat→Int:=xs.foldl applyS (fun _=>-1)
theorem foldS_snoc (xs:List (Nat × Nat)) (x:Nat × Nat):foldS (xs ++ [x])=applyS (foldS xs) x:=by simp [foldS,List.foldl_append]
theorem foldS_steps (f:Nat→Nat→Int) (n:Nat) (hn:1≤n):∀ k e,e < n→foldS (stepsL f n (k+1)) e=rkA f n k e:=by
 intro k
 induction k with
 | zero=>
  intro e he
  rw [stepsL_snoc,foldS_snoc]
  simp only [applyS]
  rw [encB_shift _ _ _ he]
  simp only [rkA,frA,inA,stepsL,foldS]
  by_cases h:e=0
  ·subst h;simp
  ·simp [h]
 | succ k ih=>
  intro e he
  rw [stepsL_snoc,foldS_snoc]
  simp only [applyS]
  rw [encB_shift _ _ _ he,ih e he]
  cases h:frA f n (k+1) e with
  | true=>rw [rkA_new h];simp
  | false=>rw [rkA_old h];simp
theorem bit16_any (z e:Nat):bits .and .u16 ((z:Nat) / 2 ^ e) 1=((z / 2 ^ e % 2:Nat):Int):=by
 rw [castDiv]
 generalize z / 2 ^ e=a
 have h1:(BitVec.ofInt 16 (a:Int)).toNat=a % 65536:=by
  rw [BitVec.ofInt_natCast,BitVec.toNat_ofNat]
 show IntKind.u16.wrap ((BitVec.ofInt 16 (a:Int) &&& BitVec.ofInt 16 (1:Int)).toNat:Int)=_
 rw [BitVec.toNat_and,h1,show (BitVec.ofInt 16 (1:Int)).toNat=1 from rfl,Nat.and_one_is_mod,IntKind.wrap_u16]
 omega
def f0 (l:List Hol) (day:Int):Nat→Nat→Int:=fun h e=>atH l (h:Int) (e:Int) day
theorem matH_f0 (l:List Hol) (n:Nat) (day:Int):matH l n day=matF (f0 l day) n:=rfl
def rankR (n:Int) (l:List Hol) (day:Int):List Int × Int:=if (matR n l day).2=0 then (fnI (rkA (f0 l day) n.toNat n.toNat) n.toNat,0) else ([],(matR n l day).2)
theorem infoIntC:(Tryz.prog.info? 3).map (fun i=>(i.zero,i.size,i.bytes))=some (some (.int .i64 0),1,8):=by kernel_rfl
theorem f0_bd {n:Int} {l:List Hol} (h:hvalidB n l=true) (day:Int):∀ x e,0≤f0 l day x e∧f0 l day x e≤10000:=by
 have hp:=(hvalidB_iff.1 h).2.1
 intro x e
 unfold f0 atH
 cases hc:curH day (ofPair l (x:Int) (e:Int)) with
 | none=>exact ⟨Int.le_refl _,by decide⟩
 | some m=>
  have:=properB_true (hp m (List.mem_filter.1 (curH_mem hc)).1)
  exact ⟨this.2.2.2.2.2.2.1,this.2.2.2.2.2.2.2⟩
theorem upd_step (k i:Nat):updI (fun e=>if e < k then -1 else 0) k (-1) i=if i < k+1 then -1 else 0:=by
 simp only [updI]
 by_cases h1:i=k
 ·subst h1;simp
 ·by_cases h2:i < k
  ·rw [if_neg h1,if_pos h2,if_pos (by omega)]
  ·rw [if_neg h1,if_neg h2,if_neg (by omega)]
theorem ups_no {A F:Nat→Int} {j:Nat} (h:A j=F j) (i:Nat):(if i < j then A i else F i)=if i < j+1 then A i else F i:=by
 by_cases h1:i=j
 ·subst h1;rw [if_neg (Nat.lt_irrefl _),if_pos (Nat.lt_succ_self _),h]
 ·by_cases h2:i < j
  ·rw [if_pos h2,if_pos (by omega)]
  ·rw [if_neg h2,if_neg (by omega)]
theorem ups_yes {A F:Nat→Int} {j:Nat} {x:Int} (h:A j=x) (i:Nat):updI (fun i=>if i < j then A i else F i) j x i=if i < j+1 then A i else F i:=by
 simp only [updI]
 by_cases h1:i=j
 ·subst h1;rw [if_pos rfl,if_pos (Nat.lt_succ_self _),h]
 ·rw [if_neg h1]
  by_cases h2:i < j
  ·rw [if_pos h2,if_pos (by omega)]
  ·rw [if_neg h2,if_neg (by omega)]
structure RankB (w1 W:World) (m:Nat) (φ:Nat→Int):Prop where
 row:RowB W w1.heap.size 3 (rowI φ m)
 box:Boxed W (w1.heap.size+1) 69 (.slice (some ⟨w1.heap.size,0,none⟩) m m)
 below:Below w1.heap.size w1 W
theorem RankB.congr {w1 W:World} {m:Nat} {φ ψ:Nat→Int} (h:RankB w1 W m φ) (e:∀ i < m,φ i=ψ i):RankB w1 W m ψ:=⟨by rw [← rowI_congr e];exact h.row,h.box,h.below⟩
theorem RankB.set {w1 W:World} {m:Nat} {φ:Nat→Int} (h:RankB w1 W m φ) (j:Nat) (x:Int):RankB w1 (W.setCell ⟨w1.heap.size,j,none⟩ (.int .i64 x)) m (updI φ j x):=
 ⟨by rw [← rowI_set];exact h.row.set j _,boxed_other h.box (by simp) _,h.below.setCell (Nat.le_refl _) _⟩
set_option maxRecDepth 100000 in
theorem rank_in (n:Int) (l:List Hol) (day:Int) (ao:Option Addr) (cap b o:Nat) (w:World) (H:Hols w ao l cap b o) (hlen:l.length≤900) (hok:∀ x∈l,x.Ok) :
  CallsIn Fence.wide 5 Tryz.prog 193 #[.int .i64 n,.slice ao l.length cap,.int .i64 day] w fun e w'=>∃ ao cap b o,e=.returned (.tuple #[.slice ao (rankR n l day).1.length cap,.int .i64 (rankR n l day).2])∧Sl w' 1 ao (rankR n l day).1.length cap b o ((rankR n l day).1.map (.int .i64))∧Keeps w w':=by
 have HM0:=matrix_any n ao l cap b o day w H hlen hok
 by_cases hv:hvalidB n l=true∧dateB day=true
 ·obtain ⟨hv,hd⟩:=hv
  obtain ⟨hn1,hn2⟩:=hvalidB_n hv
  obtain ⟨m,rfl⟩:∃ m:Nat,n=(m:Int):=⟨n.toNat,by omega⟩
  have hm1:1≤m:=by omega
  have hm:m≤12:=by omega
  have hq:rankR (m:Int) l day=(fnI (rkA (f0 l day) m m) m,0):=by unfold rankR;rw [matR_3 hv hd];simp
  have hfb:=f0_bd hv day
  unfold OutRows at HM0
  rw [matR_3 hv hd,Int.toNat_natCast] at HM0
  simp only [matH_len] at HM0
  rw [hq]
  simp only [fnI_len]
  have HM:=Lib.hid HM0
  have HFB:=Lib.hid hfb
  obtain ⟨i0,hi,hz0,hz1,hz2⟩:=info_parts infoIntC
  have hg1:Fence.wide.fn 194:=trivial
  have hg2:Fence.wide.fn 195:=trivial
  clear HM0 hv hd hn1 hn2 hq hfb H hok
  refine callsIn_of_wp_marks Tryz.func193 rfl trivial ?_ rfl
  simp only [Tryz.ntmps193,List.size_toArray,List.length_cons,List.length_nil,Nat.reduceAdd,Nat.reduceSub,Array.replicate_succ,Array.replicate_zero,List.push_toArray,List.append_toArray,List.nil_append,List.cons_append]
  gi_wp2_with (first | (gi_at_call 194;refine (callsIn_wide.2 HM.out).mono ?_;rintro e1 w1 ⟨ao1,cap1,b1,o1,rfl,hs1,hk1⟩;have HS1:=Lib.hid hs1;have K1:=Lib.hid hk1;clear hs1 hk1) | (gi_at_make;refine wpListIn_makeZ _ rfl _ _ 69 rfl 3 i0 (.int .i64 0) Tryz.underlying69 hi hz0 hz1 rfl _ _ _ _ m rfl rfl rfl rfl (by rw [hz2];omega) (by omega) ?_))
  have HR0:Hid (RankB w1 ((w1.alloc (Obj.cells (Array.replicate m (Value.int IntKind.i64 0)) 3)).alloc (Obj.cells #[Value.slice (some { block:=w1.heap.size,off:=0 }) m m] 69)) m (fun _=>0)):=Lib.hid (by
   refine ⟨?_,?_,((Below.refl _ w1).alloc (Nat.le_refl _) _).alloc (by simp) _⟩
   ·refine RowB.alloc ?_ _
    rw [← rowI_zero]
    have:=RowB.new w1 3 (List.replicate m (.int .i64 0))
    simpa using this
   ·have:=Boxed.new (w1.alloc (Obj.cells (Array.replicate m (Value.int IntKind.i64 0)) 3)) 69 (.slice (some ⟨w1.heap.size,0,none⟩) m m)
    simpa using this)
  gi_loopw [29] (fun vi wy=>∃ k:Nat,k≤m∧vi=.int .i64 k∧Hid (RankB w1 wy m (fun e=>if e < k then -1 else 0))) (fun vi _=>m - (intOf vi).toNat)
  case atStart=>exact ⟨0,Nat.zero_le _,rfl,Lib.hid (HR0.out.congr fun i _=>by simp)⟩
  case round=>
   obtain ⟨k,hk,rfl,HX⟩:=hrel
   by_cases hlt:k < m
   ·have c10:=HX.out.box.cell
    have c0:=HX.out.row.cell k _ (rowI_get _ _ _ hlt)
    have f0:=HX.out.row.frozen k
    have hb:=HX.out.row.lt
    gi_wp2
    go_roundw
    case rel=>exact ⟨k+1,by omega,by go_num,Lib.hid ((HX.out.set k (-1)).congr fun i _=>upd_step k i)⟩
    case measure=>simp [intOf];omega
   ·obtain rfl:k=m:=by omega
    have HX2:=Lib.hid (HX.out.congr (ψ:=fun _=>-1) fun i hi=>by simp [hi])
    clear HX
    gi_wp2_with (gi_at_call 195;refine (steps_in Fence.wide _ trivial rfl _ _ _ _).mono ?_;rintro en w' ⟨rfl,rfl⟩)
    obtain ⟨wo,rfl⟩:∃ wo:World,wo=wr:=⟨_,rfl⟩
    have hlt1:=HX2.out.box.lt
    have hbl:=HX2.out.below.size
    refine wpIn_rangeFunc_ownH rfl (by omega) (gf:=198) (lb:=#[.pointer (some ⟨wo.heap.size,0,none⟩)]) rfl trivial (enters_of Tryz.func198 (by kernel_rfl) rfl)
     (steps_stops 4 (by omega) wo.heap.size w1.heap.size (w1.heap.size+1+1) ao1 (f0 l day) k cap1 b1 o1 hm1 hm HFB.out w1 HS1.out (wo.alloc (.cells #[.slice ao1 k cap1] 239)) (by simp) (by omega) (Nat.le_refl _) (by simp;omega) (HX2.out.below.trans ((Below.refl _ wo).alloc hbl _)) (by go_simp))
     (fun h k=>h.trans k) (fun W l o o' hl _ _ _=>KeepBut.putObj W l o' hl) (Below.refl _ _) (fun _=>rfl)
     (fun pre W=>(RowB W w1.heap.size 3 (rowI (foldS pre) k)∧Boxed W (w1.heap.size+1) 69 (.slice (some ⟨w1.heap.size,0,none⟩) k k))∧(Below w1.heap.size w1 W∧(wo.alloc (.cells #[.slice ao1 k cap1] 239)).heap.size≤W.heap.size))
     (fun _ _ _=>False)
     (OwnFrom.and (OwnFrom.and (Own.from (RowB.own _ _ (fun pre=>rowI (foldS pre) k)) _) (Own.from (boxed_own _ _ (fun _=>Value.slice (some ⟨w1.heap.size,0,none⟩) k k)) _)) (OwnFrom.and (ownFrom_below (Nat.le_refl _) (by simp;omega)) (fun s X Y row hs hg hr=>Nat.le_trans hs hg.size)))
     (fun _ _ _ _ _ hs _ _=>hs)
     ⟨⟨HX2.out.row.alloc _,HX2.out.box.alloc _⟩,⟨HX2.out.below.trans ((Below.refl _ wo).alloc hbl _),Nat.le_refl _⟩⟩
     (fun x a' W=>a'={ tmps:=#[.int .i64 (k:Int),.slice ao l.length cap,.int .i64 day,undef,undef,undef,.slice none 0 0,.int .i64 0,.slice ao1 k cap1,.int .i64 0,.pointer (some ⟨w1.heap.size+1,0,none⟩),u11,.int .i64 (x.1:Nat),.int .u16 (x.2:Nat),undef,.tuple #[.slice ao1 k cap1,.int .i64 0],.int .i64 (k:Int),.slice ao l.length cap,.int .i64 day,.tuple #[.slice ao1 k cap1,.int .i64 0],.slice ao1 k cap1,.int .i64 0,.int .i64 0,.bool false,undef,.int .i64 (k:Int),.slice (some ⟨w1.heap.size,0,none⟩) k k,.slice (some ⟨w1.heap.size,0,none⟩) k k,.int .i64 (k:Int),.int .i64 (k:Int),.bool false,u31,u32,u33,u34,u35,.slice ao1 k cap1,.func (.func 198) #[] #[.pointer (some ⟨wo.heap.size,0,none⟩)],.int .i64 (x.1:Nat),.int .u16 (x.2:Nat),undef,undef,undef,undef,undef,undef,undef,undef,undef,undef,undef,undef,undef,undef,undef,undef],defers:=[] })
     (fun x a' _ X Y row hs hg hr=>hs)
     ?assign ?body ?done ?stop
    case assign=>
     rintro lb pre x W K hI hK
     gi_wp2
     exact hK _ _ (KeepsFrom.refl _ _) (KeepBut.refl _ _ _ _) hI rfl
    case body=>
     rintro lb pre x a' W hlb ⟨r,hr⟩ ⟨⟨hrow,hbox⟩,⟨hbel,hsz⟩⟩ rfl hlt
     have c10:=hbox.cell
     have HI:=Lib.hid (And.intro (And.intro hrow hbox) (And.intro hbel hsz))
     clear hr hrow hbox hbel hsz
     gi_wp2
     gi_loopw [42] (fun vi wy=>∃ j:Nat,j≤k∧vi=.int .i64 j∧Hid (RankB w1 wy k (fun i=>if i < j then applyS (foldS pre) x i else foldS pre i)∧KeepsOthers W wy∧KeepBut (wo.heap.size+1) w1.heap.size (w1.heap.size+1+1) W wy∧(wo.heap.size+1)≤wy.heap.size)) (fun vi _=>k - (intOf vi).toNat)
     case atStart=>exact ⟨0,Nat.zero_le _,rfl,Lib.hid ⟨⟨by simpa using HI.out.1.1,HI.out.1.2,HI.out.2.1⟩,KeepsOthers.refl _,KeepBut.refl _ _ _ _,by simpa using HI.out.2.2⟩⟩
     case round=>
      obtain ⟨j,hj,rfl,HY⟩:=hrel
      by_cases hlj:j < k
      ·have c10:=HY.out.1.box.cell
       have c0:=HY.out.1.row.cell j _ (rowI_get _ _ _ hlj)
       have f0:=HY.out.1.row.frozen j
       have hb0:=HY.out.1.row.lt
       have hbit:=bit16_any x.2 j
       rcases Nat.mod_two_eq_zero_or_one (x.2 / 2 ^ j) with h01 | h01
       ·rw [h01] at hbit
        have HN:Hid (applyS (foldS pre) x j=foldS pre j):=Lib.hid (by simp [applyS,h01])
        gi_wp2
        go_roundw
        case rel=>exact ⟨j+1,by omega,by go_num,Lib.hid ⟨HY.out.1.congr fun i _=>ups_no HN.out i,HY.out.2⟩⟩
        case measure=>simp [intOf];omega
       ·rw [h01] at hbit
        have HN:Hid (applyS (foldS pre) x j=(x.1:Nat)):=Lib.hid (by simp [applyS,h01])
        gi_wp2
        go_roundw
        case rel=>exact ⟨j+1,by omega,by go_num,Lib.hid ⟨(HY.out.1.set j (x.1:Nat)).congr fun i _=>ups_yes HN.out i,HY.out.2.1.trans (KeepsOthers.setCell _ _ _),HY.out.2.2.1.setCell (p:=⟨w1.heap.size,j,none⟩) (Nat.le_refl _) (by show w1.heap.size < _;omega) _,by have:=HY.out.2.2.2;simpa [World.setCell] using this⟩⟩
        case measure=>simp [intOf];omega
      ·obtain rfl:j=k:=by omega
       have HZ:Hid (RankB w1 wr j (foldS (pre ++ [x]))):=Lib.hid (HY.out.1.congr fun i hi=>by rw [if_pos hi,foldS_snoc])
       gi_wp2
       exact ⟨HY.out.2.1.from _,by simpa using HY.out.2.2.1,⟨⟨HZ.out.row,HZ.out.box⟩,⟨HZ.out.below,by simpa using HY.out.2.2.2⟩⟩⟩
    case done=>
     rintro D xs W hD ⟨q,rfl,hq1,hq2,hq3⟩ ⟨⟨hrow,hbox⟩,⟨hbel,hsz⟩⟩ hK
     have c10:=hbox.cell
     have hen:=ends hm1 hq2 hq1 hq3
     obtain ⟨p,rfl⟩:∃ p,q=p+1:=⟨q - 1,by omega⟩
     have HROW:Hid (RowB W w1.heap.size 3 (rowI (rkA (f0 l day) k k) k)):=Lib.hid (by
      rw [hen.1,Nat.add_sub_cancel,← rowI_congr (foldS_steps (f0 l day) k hm1 p)]
      exact hrow)
     have HB:=Lib.hid hbel
     clear hen hq2 hq3 hrow hbel
     gi_wp2
     refine ⟨by simp,.inl ⟨_,_,rfl,run_takeDeferred hK,?_⟩⟩
     have hD':wo.heap.size+1≤D:=by simpa using hD
     exact ⟨_,results_tmp2 rfl _ _ _,_,_,_,_,rfl,(HROW.out.putObj D _ (by omega)).slI (by omega),K1.out.trans (show Keeps w1 _ from HB.out.trans (belowK_b (w:=w1) (Nat.le_refl _) W D _ _ (by omega) hK rfl rfl))⟩
    case stop=>
     rintro D c pre W _ _ h _
     exact h.elim
 ·obtain ⟨re,hr,h0⟩:∃ re,matR n l day=([],re)∧re≠0:=by
   cases h1:hvalidB n l with
   | false=>exact ⟨1,matR_1 h1,by decide⟩
   | true=>
    cases h2:dateB day with
    | false=>exact ⟨2,matR_2 h1 h2,by decide⟩
    | true=>exact absurd ⟨h1,h2⟩ hv
  have hq:rankR n l day=([],re):=by unfold rankR;rw [hr,if_neg h0]
  unfold OutRows at HM0
  rw [hr] at HM0
  rw [hq]
  have HM:=Lib.hid HM0
  have e2:(re != 0)=true:=by simpa using h0
  have hg1:Fence.wide.fn 194:=trivial
  clear HM0 hv hr hq H hok
  refine callsIn_of_wp_marks Tryz.func193 rfl trivial ?_ rfl
  simp only [Tryz.ntmps193,List.size_toArray,List.length_cons,List.length_nil,Nat.reduceAdd,Nat.reduceSub,Array.replicate_succ,Array.replicate_zero,List.push_toArray,List.append_toArray,List.nil_append,List.cons_append]
  gi_wp2_with (gi_at_call 194;refine (callsIn_wide.2 HM.out).mono ?_;rintro e1 w1 ⟨ao1,cap1,b1,o1,rfl,hs1,hk1⟩;have HS1:=Lib.hid hs1;have K1:=Lib.hid hk1;clear hs1 hk1)
  exact ⟨_,results_tmp2 rfl _ _ _,none,0,0,0,rfl,Sl.nil _ _,K1.out⟩
end Go.Proofs.YtoaidbhiciaeaaaGreat

end
section
namespace Go.Proofs.YtoaidbhiciaeaaaGreat
open Go.RowKit
def rkW (f:Nat→Nat→Int) (n k e:Nat):Nat→Int:=fun i=>if i < e then rkA f n (k+1) i else rkA f n k i
theorem rkW_in {f:Nat→Nat→Int} {n k e i:Nat}:(0≤rkW f n k e i∧rkW f n k e i < (k:Int)+1)↔inA f n k i=true:=by
 unfold rkW
 split
 ·exact rk_within k i
 ·rw [← rkA_iff]
  have:=rkA_le (f:=f) (n:=n) k i
  omega
theorem rkW_old {f:Nat→Nat→Int} {n k e:Nat}:rkW f n k e e=rkA f n k e:=by unfold rkW;rw [if_neg (Nat.lt_irrefl _)]
theorem rkW_yes {f:Nat→Nat→Int} {n k e:Nat} (he:e < n) (h1:rkA f n k e < 0) (h2:5000 < voteK f (inA f n k) e n) (i:Nat):updI (rkW f n k e) e ((k:Int)+1) i=rkW f n k (e+1) i:=by
 have h3:inA f n k e=false:=by
  cases h:inA f n k e with
  | false=>rfl
  | true=>have:=(rkA_iff k e).2 h;omega
 have h4:frA f n (k+1) e=true:=by simp [frA,inA,h3,he,h2]
 have h5:=rkA_new h4
 refine ups_yes (A:=rkA f n (k+1)) (F:=rkA f n k) h5 i
theorem rkW_no {f:Nat→Nat→Int} {n k e:Nat} (h:¬ (rkA f n k e < 0∧5000 < voteK f (inA f n k) e n)) (i:Nat):rkW f n k e i=rkW f n k (e+1) i:=by
 have h4:frA f n (k+1) e=false:=by
  cases h3:inA f n k e with
  | true=>simp [frA,h3]
  | false=>
   have h5:=rkA_neg h3
   have h6:¬ 5000 < voteK f (inA f n k) e n:=fun h7=>h ⟨by omega,h7⟩
   simp [frA,inA,h3,h6]
 exact ups_no (A:=rkA f n (k+1)) (F:=rkA f n k) (rkA_old h4) i
def rk1 (k:Nat):Nat→Int:=fun i=>if i=0 then 0 else if i < k then -1 else 0
theorem rk1_one (i:Nat):rk1 1 i=0:=by
 simp only [rk1]
 by_cases h:i=0
 ·rw [if_pos h]
 ·rw [if_neg h,if_neg (by omega)]
theorem rk1_step (k:Nat) (hk:1≤k) (i:Nat):updI (rk1 k) k (-1) i=rk1 (k+1) i:=by
 simp only [updI,rk1]
 by_cases h1:i=k
 ·subst h1;rw [if_pos rfl,if_neg (by omega),if_pos (Nat.lt_succ_self _)]
 ·rw [if_neg h1]
  by_cases h0:i=0
  ·rw [if_pos h0,if_pos h0]
  ·rw [if_neg h0,if_neg h0]
   by_cases h2:i < k
   ·rw [if_pos h2,if_pos (by omega)]
   ·rw [if_neg h2,if_neg (by omega)]
theorem rk1_end (f:Nat→Nat→Int) (n:Nat) (i:Nat) (hi:i < n):rk1 n i=rkA f n 0 i:=by
 simp only [rk1,rkA]
 by_cases h0:i=0
 ·rw [if_pos h0,if_pos h0]
 ·rw [if_neg h0,if_neg h0,if_pos hi]
def RkW (w W:World) (n:Nat) (φ:Nat→Int):Prop:=RowB W w.heap.size 3 (rowI φ n)∧Keeps w W
theorem RkW.congr {w W:World} {n:Nat} {φ ψ:Nat→Int} (h:RkW w W n φ) (e:∀ i < n,φ i=ψ i):RkW w W n ψ:=⟨by rw [← rowI_congr e];exact h.1,h.2⟩
theorem RkW.set {w W:World} {n:Nat} {φ:Nat→Int} (h:RkW w W n φ) (j:Nat) (x:Int):RkW w (W.setCell ⟨w.heap.size,j,none⟩ (.int .i64 x)) n (updI φ j x):=
 ⟨by rw [← rowI_set];exact h.1.set j _,h.2.setCell (Nat.le_refl _) _⟩
set_option maxRecDepth 100000 in
theorem ranks_any (f:Nat→Nat→Int) (n:Nat) (hn1:1≤n) (hn:n≤12) (hf:∀ h e,0≤f h e∧f h e≤10000) (ao:Option Addr) (cap b o:Nat) (w:World) (H:Rows w ao (matF f n) cap b o) :
  Calls Tryz.prog 190 #[.slice ao n cap] w fun en w'=>∃ ao cap b o,en=.returned (.slice ao n cap)∧Sl w' 1 ao n cap b o ((fnI (rkA f n n) n).map (.int .i64))∧Keeps w w':=by
 have hcap:=H.cap
 have hle:=H.le
 rw [matF_len] at hle
 have HH:=Lib.hid H
 have HF:=Lib.hid hf
 obtain ⟨i0,hi,hz0,hz1,hz2⟩:=info_parts infoIntC
 clear H hf
 go_enter Tryz.func190,Tryz.ntmps190
 go_wp2_with (at_make;refine wpList_makeZ _ rfl _ _ 69 rfl 3 i0 (.int .i64 0) Tryz.underlying69 hi hz0 hz1 rfl _ _ _ _ n rfl rfl rfl rfl (by rw [hz2];omega) (by omega) ?_)
 have HR0:Hid (RkW w (w.alloc (Obj.cells (Array.replicate n (Value.int IntKind.i64 0)) 3)) n (rk1 1)):=Lib.hid ⟨by
  rw [rowI_congr (φ:=rk1 1) (ψ:=fun _=>0) (fun i _=>rk1_one i),← rowI_zero]
  have:=RowB.new w 3 (List.replicate n (.int .i64 0))
  simpa using this,(Keeps.refl w).alloc _⟩
 go_loopw [4] (fun vi wy=>∃ k:Nat,1≤k∧k≤n∧vi=.int .i64 k∧Hid (RkW w wy n (rk1 k))) (fun vi _=>n - (intOf vi).toNat)
 case atStart=>exact ⟨1,Nat.le_refl _,hn1,rfl,HR0⟩
 case round=>
  obtain ⟨k,hk1,hk,rfl,HX⟩:=hrel
  by_cases hlt:k < n
  ·have c0:=HX.out.1.cell k _ (rowI_get _ _ _ hlt)
   have f0':=HX.out.1.frozen k
   have hb0:=HX.out.1.lt
   go_wp2_with fail
   go_roundw
   case rel=>exact ⟨k+1,by omega,by omega,by go_num,Lib.hid ((HX.out.set k (-1)).congr fun i _=>rk1_step k hk1 i)⟩
   case measure=>simp [intOf];omega
  ·obtain rfl:k=n:=by omega
   have HX1:=Lib.hid (HX.out.congr (rk1_end f k))
   clear HX
   go_wp2_with fail
   go_loopw [5] (fun vi wy=>∃ s:Nat,s≤k∧vi=.int .i64 ((s:Int)+1)∧Hid (RkW w wy k (rkA f k s))) (fun vi _=>k+1 - (intOf vi).toNat)
   case atStart=>exact ⟨0,Nat.zero_le _,rfl,HX1⟩
   case round=>
    obtain ⟨s,hs,rfl,HS⟩:=hrel
    by_cases hls:s < k
    ·go_wp2_with fail
     go_loopw [6] (fun vi wy=>∃ e:Nat,e≤k∧vi=.int .i64 e∧Hid (RkW w wy k (rkW f k s e))) (fun vi _=>k - (intOf vi).toNat)
     case atStart=>exact ⟨0,Nat.zero_le _,rfl,Lib.hid (HS.out.congr fun i _=>by unfold rkW;rw [if_neg (Nat.not_lt_zero _)])⟩
     case round=>
      obtain ⟨e,he,rfl,HE⟩:=hrel
      obtain ⟨wo,rfl⟩:∃ wo:World,wo=wr:=⟨_,rfl⟩
      by_cases hle2:e < k
      ·go_wp2_with fail
       go_loopw [7,8] (fun vt vi wy=>∃ (j:Nat) (t:Int),j≤k∧vi=.int .i64 j∧vt=.int .i64 t∧0≤t∧t≤120000∧Hid (t=voteK f (inA f k s) e j)∧wy=wo) (fun _ vi _=>k - (intOf vi).toNat)
       case atStart=>exact ⟨0,0,Nat.zero_le _,rfl,rfl,by omega,by omega,Lib.hid rfl,rfl⟩
       case round=>
        obtain ⟨j,t,hj,rfl,rfl,ht0,ht1,HT,rfl⟩:=hrel
        by_cases hlj:j < k
        ·obtain ⟨ao2,cap2,b2,o2,m0,h2,h3,h4,h5⟩:=matF_at (HH.out.keeps HE.out.2) j hlj
         have hix:=matF_ix HH.out j hlj
         have hiy:=h5 e hle2
         have m1:=h4 e hle2
         have c0:=HE.out.1.cell j _ (rowI_get _ _ _ hlj)
         have hb0:=HE.out.1.lt
         obtain ⟨x,hx⟩:∃ x,f j e=x:=⟨_,rfl⟩
         have hxb:=HF.out j e
         rw [hx] at m1 hxb
         obtain ⟨hx0,hx1⟩:=hxb
         obtain ⟨r,hr⟩:∃ r,rkW f k s e j=r:=⟨_,rfl⟩
         have hin:=rkW_in (f:=f) (n:=k) (k:=s) (e:=e) (i:=j)
         rw [hr] at c0 hin
         clear h4 h5 hr
         by_cases hr0:0≤r
         ·have r1:decide (0≤r)=true:=decide_eq_true hr0
          by_cases hr1:r < (s:Int)+1
          ·have r2:decide (r < (s:Int)+1)=true:=decide_eq_true hr1
           have HN:Hid (t+x=voteK f (inA f k s) e (j+1)):=Lib.hid (by rw [HT.out];simp only [voteK];rw [hin.1 ⟨hr0,hr1⟩,hx];rfl)
           have hsn:t+x≤120000:=by
            rw [HN.out]
            have:=(voteK_bd HF.out (inA f k s) e (j+1)).2
            omega
           clear hin hx
           go_wp2_with fail
           go_roundw
           case rel=>exact ⟨j+1,t+x,by omega,by go_num,rfl,by omega,by omega,HN,trivial⟩
           case measure=>simp [intOf];omega
          ·have r2:decide (r < (s:Int)+1)=false:=decide_eq_false hr1
           have hi0:inA f k s j=false:=by
            cases h:inA f k s j with
            | false=>rfl
            | true=>exact absurd (hin.2 h).2 hr1
           have HN:Hid (t=voteK f (inA f k s) e (j+1)):=Lib.hid (by rw [HT.out];simp only [voteK];rw [hi0];simp)
           clear hin hx hi0
           go_wp2_with fail
           go_roundw
           case rel=>exact ⟨j+1,t,by omega,by go_num,rfl,by omega,by omega,HN,trivial⟩
           case measure=>simp [intOf];omega
         ·have r1:decide (0≤r)=false:=decide_eq_false hr0
          have hi0:inA f k s j=false:=by
           cases h:inA f k s j with
           | false=>rfl
           | true=>exact absurd (hin.2 h).1 hr0
          have HN:Hid (t=voteK f (inA f k s) e (j+1)):=Lib.hid (by rw [HT.out];simp only [voteK];rw [hi0];simp)
          clear hin hx hi0
          go_wp2_with fail
          go_roundw
          case rel=>exact ⟨j+1,t,by omega,by go_num,rfl,by omega,by omega,HN,trivial⟩
          case measure=>simp [intOf];omega
        ·obtain rfl:j=k:=by omega
         have c0:=HE.out.1.cell e _ (rowI_get _ _ _ hle2)
         rw [rkW_old] at c0
         have f0':=HE.out.1.frozen e
         have hb0:=HE.out.1.lt
         obtain ⟨r,hr⟩:∃ r,rkA f j s e=r:=⟨_,rfl⟩
         have HYES:Hid (r < 0→5000 < t→∀ i,updI (rkW f j s e) e ((s:Int)+1) i=rkW f j s (e+1) i):=Lib.hid (fun h1 h2 i=>rkW_yes hle2 (by rw [hr];exact h1) (by rw [← HT.out];exact h2) i)
         have HNO:Hid (¬ (r < 0∧5000 < t)→∀ i,rkW f j s e i=rkW f j s (e+1) i):=Lib.hid (fun h i=>rkW_no (by rw [hr,← HT.out];exact h) i)
         rw [hr] at c0
         clear hr
         by_cases hr0:r < 0
         ·have r1:decide (r < 0)=true:=decide_eq_true hr0
          by_cases ht5:5000 < t
          ·have r2:decide (5000 < t)=true:=decide_eq_true ht5
           go_wp2_with fail
           go_roundw
           case rel=>exact ⟨e+1,by omega,by go_num,Lib.hid ((HE.out.set e ((s:Int)+1)).congr fun i _=>HYES.out hr0 ht5 i)⟩
           case measure=>simp [intOf];omega
          ·have r2:decide (5000 < t)=false:=decide_eq_false ht5
           go_wp2_with fail
           go_roundw
           case rel=>exact ⟨e+1,by omega,by go_num,Lib.hid (HE.out.congr fun i _=>HNO.out (fun h=>ht5 h.2) i)⟩
           case measure=>simp [intOf];omega
         ·have r1:decide (r < 0)=false:=decide_eq_false hr0
          go_wp2_with fail
          go_roundw
          case rel=>exact ⟨e+1,by omega,by go_num,Lib.hid (HE.out.congr fun i _=>HNO.out (fun h=>hr0 h.1) i)⟩
          case measure=>simp [intOf];omega
      ·obtain rfl:e=k:=by omega
       have HZ:Hid (RkW w wo e (rkA f e (s+1))):=Lib.hid (HE.out.congr fun i hi=>by unfold rkW;rw [if_pos hi])
       go_wp2_with fail
       go_roundw
       case rel=>exact ⟨s+1,by omega,by go_num,HZ⟩
       case measure=>simp [intOf];omega
    ·obtain rfl:s=k:=by omega
     go_wp2_with fail
     go_ret
     exact ⟨_,_,_,_,rfl,HS.out.1.slI (by omega),HS.out.2⟩
end Go.Proofs.YtoaidbhiciaeaaaGreat

end
section
namespace Go.Proofs.YtoaidbhiciaeaaaGreat
open Go.RowKit
set_option maxRecDepth 100000 in
theorem rmatrix_any (n:Int) (ao:Option Addr) (l:List Hol) (cap b o:Nat) (day:Int) (w:World) (H:Hols w ao l cap b o) (hlen:l.length≤900) :
  Calls Tryz.prog 189 #[.int .i64 n,.slice ao l.length cap,.int .i64 day] w (OutRows w (matR n l day)):=by
 have hcap:=Sl.cap H
 have hle:=Sl.le H
 have HH:=Lib.hid H
 obtain ⟨vl,hvl⟩:∃ vl,hvalidB n l=vl:=⟨_,rfl⟩
 obtain ⟨vd,hvd⟩:∃ vd,dateB day=vd:=⟨_,rfl⟩
 have HV:Hid (Calls Tryz.prog 51 #[.int .i64 n,.slice ao l.length cap] w fun e w'=>e=.returned (.bool vl)∧Keeps w w'):=Lib.hid (by have:=hrvalid_any n ao l cap b o w H (by omega);rw [hvl] at this;exact this)
 have HD:Hid (∀ W,Calls Tryz.prog 94 #[.int .i64 day] W fun e w'=>e=.returned (.bool vd)∧W=w'):=Lib.hid (fun W=>by have:=hrdate_any day W;rw [hvd] at this;exact this)
 clear H
 cases vl with
 | false=>
  have HQ:=Lib.hid (matR_1 (day:=day) hvl)
  clear hvl hvd
  go_enter Tryz.func189,Tryz.ntmps189
  go_wp2_with (go_at_call 51;refine HV.out.mono ?_;rintro e1 w1 ⟨rfl,hk1⟩;have K1:=Lib.hid hk1;clear hk1)
  go_ret2
  exact OutRows.nil HQ.out K1.out
 | true=>
  cases vd with
  | false=>
   have HQ:=Lib.hid (matR_2 hvl hvd)
   clear hvl hvd
   go_enter Tryz.func189,Tryz.ntmps189
   go_wp2_with (first | (go_at_call 94;refine (HD.out _).mono ?_;rintro e2 w2 ⟨rfl,rfl⟩) | (go_at_call 51;refine HV.out.mono ?_;rintro e1 w1 ⟨rfl,hk1⟩;have K1:=Lib.hid hk1;clear hk1))
   go_ret2
   exact OutRows.nil HQ.out K1.out
  | true=>
   obtain ⟨hn1,hn2⟩:=hvalidB_n hvl
   have HQ:=Lib.hid (matR_3 hvl hvd)
   obtain ⟨m,rfl⟩:∃ m:Nat,n=(m:Int):=⟨n.toNat,by omega⟩
   have hm12:m≤12:=by omega
   clear hvl hvd hn1 hn2
   go_enter Tryz.func189,Tryz.ntmps189
   go_wp2_with (first | (go_at_call 94;refine (HD.out _).mono ?_;rintro e2 w2 ⟨rfl,rfl⟩) | (go_at_call 51;refine HV.out.mono ?_;rintro e1 w1 ⟨rfl,hk1⟩;have K1:=Lib.hid hk1;clear hk1))
   go_loopw [8,9] (fun vs vi wy=>∃ (k:Nat) (vv:List Value),k≤m∧vi=.int .i64 k∧Hid (Keeps w1 wy∧wy.ownsRow w1.heap.size 69 1 vs k vv∧RowsG wy vs.ownBlock vv (rowsH l m k day))) (fun _ vi _=>m - (intOf vi).toNat)
   case atStart=>exact ⟨0,[],Nat.zero_le _,rfl,Lib.hid ⟨Keeps.refl _,World.ownsRow_nil _ _ _ _,RowsG.nil _ _⟩⟩
   case round=>
    obtain ⟨k,vv,hk,rfl,HX⟩:=hrel
    obtain ⟨wo,rfl⟩:∃ wo:World,wo=wr:=⟨_,rfl⟩
    by_cases hlt:k < m
    ·go_wp2_with fail
     go_loopw [10,11] (fun vs2 vi2 wy=>∃ (j:Nat),j≤m∧vi2=.int .i64 j∧Hid (Keeps wo wy∧wy.ownsRow wo.heap.size 3 1 vs2 j ((rowH l j (k:Int) day).map (.int .i64)))) (fun _ vi2 _=>m - (intOf vi2).toNat)
     case atStart=>exact ⟨0,Nat.zero_le _,rfl,Lib.hid ⟨Keeps.refl _,World.ownsRow_nil _ _ _ _⟩⟩
     case round=>
      obtain ⟨j,hj,rfl,HY⟩:=hrel
      by_cases hlj:j < m
      ·have HS:=Lib.hid (rowH_snoc l j (k:Int) day)
       go_wp2_with (first | (go_at_call 139;refine (rhat_any ao l cap b o (k:Int) (j:Int) day _ (HH.out.keeps (K1.out.trans (HX.out.1.trans HY.out.1)))).mono ?_;rintro e4 w4 ⟨rfl,hk4⟩;have HZ:=Lib.hid (And.intro (HY.out.1.trans hk4) (own_keepsH HY.out.2 hk4));clear hk4) | (at_builtin;refine wpList_appx elemInt rfl _ _ rfl wo _ _ _ rfl wo.heap.size HZ.out.2 HZ.out.1 HZ.out.1.size [.int .i64 (atH l (k:Int) (j:Int) day)] _ 1 rfl rfl rfl (by intro u hu;simp at hu;subst hu;rfl) (by omega) (by omega) ?_;intro v5 w5 hown5 hb5 hsz5;have HV5:Hid (Keeps wo w5∧w5.ownsRow wo.heap.size 3 1 v5 (j+1) ((rowH l (j+1) (k:Int) day).map (.int .i64))):=Lib.hid ⟨hb5,by rw [HS.out,List.map_append];exact hown5⟩;clear hown5 hb5 hsz5))
       go_roundw
       case rel=>exact ⟨j+1,by omega,by go_num,HV5⟩
       case measure=>simp [intOf];omega
      ·obtain rfl:j=m:=by omega
       obtain ⟨hky,howny⟩:=HY.out
       obtain ⟨ao6,cap6,b6,rfl,hs6⟩:=Sl.own howny
       clear hs6
       have HI:Hid (IntL wr _ (rowH l j (k:Int) day)):=Lib.hid (IntL.own (by rw [rowH_len];exact howny))
       have HK:=Lib.hid (HX.out.1.trans hky)
       have HO:=Lib.hid (own_keepsH HX.out.2.1 hky)
       have HSP:=Lib.hid (sep_new HX.out.2.1 howny)
       have HRV:=Lib.hid (HX.out.2.2.keeps hky)
       have HS:=Lib.hid (rowsH_snoc l j k day)
       clear hky howny
       go_wp2_with (at_builtin;refine wpList_app_row elemRows rfl _ _ rfl w1 _ _ _ rfl w1.heap.size HO.out HK.out HK.out.size _ (by exact HRV.out) _ _ HI.out (by exact HSP.out.1) HSP.out.2 _ 1 rfl rfl (by omega) (by omega) ?_;intro v5 w5 hown5 hrg5 hb5 hsz5;have HV5:Hid (Keeps w1 w5∧w5.ownsRow w1.heap.size 69 1 v5 (k+1) _∧RowsG w5 v5.ownBlock _ (rowsH l j (k+1) day)):=Lib.hid ⟨hb5,hown5,by rw [HS.out];exact hrg5⟩;clear hown5 hrg5 hb5 hsz5)
       go_roundw
       case rel=>exact ⟨k+1,_,by omega,by go_num,HV5⟩
       case measure=>simp [intOf];omega
    ·obtain rfl:k=m:=by omega
     obtain ⟨hky,howny,hrv⟩:=HX.out
     obtain ⟨ao7,cap7,b7,rfl,hrs⟩:=Rows.own (by rw [rowsH_len];exact howny) hrv.1
     have HRS:=Lib.hid hrs
     have HK:=Lib.hid (K1.out.trans hky)
     clear hky howny hrv hrs HX
     go_wp2_with fail
     go_ret2
     rw [HQ.out,Int.toNat_natCast]
     exact ⟨ao7,cap7,b7,0,rfl,HRS.out,HK.out⟩
end Go.Proofs.YtoaidbhiciaeaaaGreat

end
