/- Walks and plain facts that the claim rests on (GrpA, GrpE). No condition. -/
import Derived.Test.YtoaidbhiciaeaaaGreatPo19
import Derived.Deep.MidRow
set_option linter.unusedSimpArgs false
set_option linter.unusedVariables false
set_option maxHeartbeats 16000000
section
namespace Go.Proofs.YtoaidbhiciaeaaaGreat
open Go.RowKit
theorem keeps_grown {a b:World} (h:Keeps a b) (row:Option Nat):a.grownBy b row:=⟨h.os,h.tape,h.output,h.size,fun i hi _=>h.block i hi⟩
theorem Sl.grownR {w w':World} {sz:Nat} {ao:Option Addr} {n cap b o:Nat} {cs:List Value} {row:Option Nat} (h:Sl w sz ao n cap b o cs) (hg:w.grownBy w' row) (hne:some b≠row):Sl w' sz ao n cap b o cs:=
 ⟨h.len,h.le,h.nocap,h.cap,h.addr,fun j u hu=>hg.cell (Sl.cell h j u hu) hne⟩
theorem seenI_get' (xs:List Int) (c:Int):(seenI xs c).getD (.bool false)=.bool (xs.contains c):=by
 unfold seenI
 cases h:xs.contains c <;> rfl
theorem seenR (l:List Rol) (k:Nat) (c:Int):((l.take k).map Rol.code).contains c=(l.take k).any (fun q=>q.code == c):=by
 rw [List.contains_eq_any_beq,List.any_map]
 congr 1
 funext q
 simp only [Function.comp]
 rw [Bool.eq_iff_iff,beq_iff_eq,beq_iff_eq]
 exact eq_comm
theorem grp_roles (g:Grp) (cv ev:Value):∀ j v,g.rl.vals[j]?=some v→(g.cells cv ev)[5+j]?=some v:=fun j v h=>by
 rw [Nat.add_comm]
 show (g.rl.vals ++ [ev])[j]?=some v
 rw [List.getElem?_append_left (List.getElem?_eq_some_iff.1 h).1]
 exact h
theorem accB_1 {g:Grp} (h:validRB g.chart true=false):accB g=false:=by unfold accB;rw [h];rfl
theorem accB_2 {g:Grp} (h:g.chart.any (fun a=>!basedB a)=true):accB g=false:=by unfold accB;rw [h];simp
theorem accB_3 {g:Grp} {k:Nat} (hk:k < (rolesL g.rl).length) (h:okRole g.chart (rolesL g.rl) k=false):accB g=false:=by
 unfold accB
 rw [allr_false hk h];simp
theorem accB_4 {g:Grp} (h1:validRB g.chart true=true) (h2:g.chart.any (fun a=>!basedB a)=false) (h:∀ k,k < (rolesL g.rl).length→okRole g.chart (rolesL g.rl) k=true):accB g=true:=by
 unfold accB
 rw [allr_true h,h1,h2];rfl
set_option maxRecDepth 100000 in
theorem acc_any (g:Grp) (ev:Value) (aoC:Option Addr) (capC bC oC:Nat) (w:World) (H:Accs w aoC g.chart capC bC oC) (hlen:g.chart.length≤200) (hok:∀ x∈g.chart,x.OkA) (hro:g.rl.Ok) :
  Calls Tryz.prog 64 #[.agg #[.string g.cur,.int .i64 g.y,.int .i64 g.m,.int .i64 g.n,.slice aoC g.chart.length capC,.int .i64 g.rl.r0,.int .i64 g.rl.r1,.int .i64 g.rl.r2,.int .i64 g.rl.r3,.int .i64 g.rl.r4,.int .i64 g.rl.r5,.int .i64 g.rl.r6,.int .i64 g.rl.r7,.int .i64 g.rl.r8,.int .i64 g.rl.r9,.int .i64 g.rl.r10,.int .i64 g.rl.r11,.int .i64 g.rl.r12,.int .i64 g.rl.r13,.int .i64 g.rl.r14,ev]] w fun e w'=>e=.returned (.bool (accB g))∧Keeps w w':=by
 have hmm:=@run_makeMap Tryz.prog
 have HC:=Lib.hid H
 have HGB:Hid (RowB (w.alloc (.cells (g.cells (.slice aoC g.chart.length capC) ev).toArray 29)) w.heap.size 29 (g.cells (.slice aoC g.chart.length capC) ev)):=Lib.hid (RowB.new w _ _)
 have HV:Hid (∀ W,Keeps w W→Calls Tryz.prog 98 #[.slice aoC g.chart.length capC,.bool true] W fun e w'=>e=.returned (.bool (validRB g.chart true))∧Keeps W w'):=Lib.hid (fun W hk=>by have:=valid_any g.chart true aoC capC bC oC W (H.keeps hk) hlen hok;rw [valid_eq] at this;exact this)
 have HA:Hid (∀ W,Keeps w W→Calls Tryz.prog 99 #[.slice aoC g.chart.length capC,.func (.func 100) #[] #[]] W fun e w'=>e=.returned (.bool (g.chart.any (fun a=>!basedB a)))∧Keeps W w'):=Lib.hid (fun W hk=>hasA_any aoC g.chart capC bC oC W (H.keeps hk))
 cases h1:validRB g.chart true with
 | false=>
  have HBD:=Lib.hid (accB_1 h1)
  rw [h1] at HV
  clear h1
  go_enter Tryz.func64,Tryz.ntmps64
  go_wp2_with (go_at_call 98;(refine (HV.out _ ((Keeps.refl w).alloc _)).mono ?_);rintro e1 w1 ⟨rfl,hk1⟩;have K1:=Lib.hid (((Keeps.refl w).alloc (.cells (g.cells (.slice aoC g.chart.length capC) ev).toArray 29)).trans hk1);have G1:=Lib.hid (HGB.out.keeps hk1);have g4:=hk1.cell (p:=⟨w.heap.size,4,none⟩) (v:=.slice aoC g.chart.length capC) (by go_simp);have hz1:=World.block_lt_of_cell? _ _ g4;clear hk1)
  go_ret
  rw [HBD.out]
  exact ⟨rfl,K1.out⟩
 | true=>
  rw [h1] at HV
  have H1:=Lib.hid h1
  clear h1
  cases h2:g.chart.any (fun a=>!basedB a) with
  | true=>
   have HBD:=Lib.hid (accB_2 h2)
   rw [h2] at HA
   clear h2
   go_enter Tryz.func64,Tryz.ntmps64
   go_wp2_with (first | (go_at_call 99;(refine (HA.out _ K1.out).mono ?_);rintro e2 w2 ⟨rfl,hk2⟩;have K2:=Lib.hid (K1.out.trans hk2);have G2:=Lib.hid (G1.out.keeps hk2);have hz2:=Nat.lt_of_lt_of_le hz1 hk2.size;clear hk2 hz1) | (go_at_call 98;(refine (HV.out _ ((Keeps.refl w).alloc _)).mono ?_);rintro e1 w1 ⟨rfl,hk1⟩;have K1:=Lib.hid (((Keeps.refl w).alloc (.cells (g.cells (.slice aoC g.chart.length capC) ev).toArray 29)).trans hk1);have G1:=Lib.hid (HGB.out.keeps hk1);have g4:=hk1.cell (p:=⟨w.heap.size,4,none⟩) (v:=.slice aoC g.chart.length capC) (by go_simp);have hz1:=World.block_lt_of_cell? _ _ g4;clear hk1))
   go_ret
   rw [HBD.out]
   exact ⟨rfl,K2.out⟩
  | false=>
   have H2:=Lib.hid h2
   rw [h2] at HA
   clear h2
   obtain ⟨l,hl⟩:∃ l,rolesL g.rl=l:=⟨_,rfl⟩
   have hll:l.length=15:=by rw [← hl];rfl
   have HRO:Hid (∀ W,Calls Tryz.prog 102 #[.agg #[.int .i64 g.rl.r0,.int .i64 g.rl.r1,.int .i64 g.rl.r2,.int .i64 g.rl.r3,.int .i64 g.rl.r4,.int .i64 g.rl.r5,.int .i64 g.rl.r6,.int .i64 g.rl.r7,.int .i64 g.rl.r8,.int .i64 g.rl.r9,.int .i64 g.rl.r10,.int .i64 g.rl.r11,.int .i64 g.rl.r12,.int .i64 g.rl.r13,.int .i64 g.rl.r14]] W fun e w'=>∃ B,W.heap.size≤B∧e=.returned (.slice (some ⟨B,0,none⟩) 15 15)∧Recs w' 5 Rol.cells (some ⟨B,0,none⟩) l 15 B 0∧Keeps W w'):=Lib.hid (fun W=>(rolesP_any g.rl W).mono (by rintro e w' ⟨rfl,hs,hk⟩;exact ⟨_,Nat.le_succ _,rfl,by rw [← hl];exact hs,hk⟩))
   have HIA:Hid (∀ q∈l,I64 q.code):=Lib.hid (by rw [← hl];exact hro)
   have HL:=Lib.hid hl
   have HLL:=Lib.hid hll
   clear hl hll H hok hro
   go_enter Tryz.func64,Tryz.ntmps64
   go_wp2_with (first | (go_at_call 102;(refine (HRO.out _).mono ?_);rintro e3 w3 ⟨B,hB,rfl,hs3,hk3⟩;have HS3:=Lib.hid hs3;have K3:=Lib.hid ((K2.out.alloc _).trans hk3);have HB3:Hid (w2.heap.size < B∧w2.heap.size < w3.heap.size):=Lib.hid (by have:=hk3.size;rw [World.size_alloc] at hB this;omega);have G3:=Lib.hid ((G2.out.alloc _).keeps hk3);have HM3:=Lib.hid ((VMap.made intK w2).keeps hk3);clear hs3 hk3 hB) | (go_at_call 99;(refine (HA.out _ K1.out).mono ?_);rintro e2 w2 ⟨rfl,hk2⟩;have K2:=Lib.hid (K1.out.trans hk2);have G2:=Lib.hid (G1.out.keeps hk2);have hz2:=Nat.lt_of_lt_of_le hz1 hk2.size;clear hk2 hz1) | (go_at_call 98;(refine (HV.out _ ((Keeps.refl w).alloc _)).mono ?_);rintro e1 w1 ⟨rfl,hk1⟩;have K1:=Lib.hid (((Keeps.refl w).alloc (.cells (g.cells (.slice aoC g.chart.length capC) ev).toArray 29)).trans hk1);have G1:=Lib.hid (HGB.out.keeps hk1);have g4:=hk1.cell (p:=⟨w.heap.size,4,none⟩) (v:=.slice aoC g.chart.length capC) (by go_simp);have hz1:=World.block_lt_of_cell? _ _ g4;clear hk1) | (refine wpList_load_mid rfl 26 _ rfl w.heap.size 5 rfl g.rl.vals _ (range_sub (RowB.range (G2.out.alloc _)) 5 _ (grp_roles g _ _)) Tryz.underlying26 rfl rolesSize ?_))
   go_loopw [22] (fun vi wr=>∃ k:Nat,k≤15∧vi=.int .i64 k∧Hid (∀ j,j < k→okRole g.chart l j=true)∧Hid (Keeps w wr∧w3.grownBy wr (some w2.heap.size)∧VMap intK wr w2.heap.size k (seenI ((l.take k).map Rol.code)))) (fun vi _=>15 - (intOf vi).toNat)
   case atStart=>exact ⟨0,Nat.zero_le _,rfl,Lib.hid (fun j hj=>absurd hj (Nat.not_lt_zero _)),Lib.hid ⟨K3.out,World.grownBy.refl _ _,HM3.out⟩⟩
   case round=>
    obtain ⟨k,hk,rfl,HN,HW⟩:=hrel
    by_cases hlt15:k < 15
    ·have hlt:k < l.length:=by rw [HLL.out];exact hlt15
     have hsr:=Sl.grownR HS3.out HW.out.2.1 (by intro e;have:=HB3.out.1;simp at e;omega)
     have hix:=Sl.at hsr Tryz.underlying166 Tryz.sizeOf169 k hlt
     rw [HLL.out] at hix
     obtain ⟨r,hr⟩:∃ r,l[k]=r:=⟨_,rfl⟩
     have hsr:Recs wr 5 Rol.cells (some ⟨B,0,none⟩) l 15 B 0:=hsr
     have c0:=hsr.cell Rol.len k hlt 0 (.string r.nm) (by rw [hr];rfl)
     have c1:=hsr.cell Rol.len k hlt 1 (.int .i64 r.code) (by rw [hr];rfl)
     have c2:=hsr.cell Rol.len k hlt 2 (.int .i64 r.kind) (by rw [hr];rfl)
     have c3:=hsr.cell Rol.len k hlt 3 (.int .i64 r.basis) (by rw [hr];rfl)
     have c4:=hsr.cell Rol.len k hlt 4 (.bool r.mapped) (by rw [hr];rfl)
     simp only [Nat.add_zero,Nat.zero_add] at c0 c1 c2 c3 c4 hix
     have g4':=(G3.out.kept HW.out.2.1 (by intro e;simp at e;omega)).cell 4 (.slice aoC g.chart.length capC) rfl
     have hzr:=World.block_lt_of_cell? _ _ c0
     have hzg:=World.block_lt_of_cell? _ _ g4'
     have HI:Hid (I64 r.code):=Lib.hid (by rw [← hr];exact HIA.out _ (List.getElem_mem ..))
     obtain ⟨a,ha⟩:∃ a,(findA g.chart r.code).getD Acc.zero=a:=⟨_,rfl⟩
     obtain ⟨p,hp⟩:∃ p,(findA g.chart r.code).isSome=p:=⟨_,rfl⟩
     obtain ⟨s,hs⟩:∃ s,(l.take k).any (fun q=>q.code == r.code)=s:=⟨_,rfl⟩
     have HF:Hid (∀ W,Accs W aoC g.chart capC bC oC→Calls Tryz.prog 103 #[.slice aoC g.chart.length capC,.int .i64 r.code] W fun e w'=>e=.returned (.tuple #[.agg #[.int .i64 a.code,.int .i64 a.kind,.int .i64 a.basis,.int .i64 a.parent],.bool p])∧Keeps W w'):=Lib.hid (fun W h=>by
      have:=find_any g.chart r.code aoC capC bC oC W h
      unfold AccO at this
      rw [ha,hp] at this
      exact this)
     have HR:=Lib.hid hr
     have HA1:=Lib.hid ha
     have HP1:=Lib.hid hp
     have HSN:=Lib.hid hs
     clear hr ha hp hs hsr
     cases p with
     | false=>
      have HBD:=Lib.hid (accB_3 (g:=g) (k:=k) (by rw [HL.out];exact hlt) (by rw [HL.out,okRole_at hlt,HR.out,HA1.out,HP1.out];simp [HSN.out,true]))
      (go_wp2_with (go_at_call 103;(refine (HF.out _ (HC.out.keeps (HW.out.1.alloc _))).mono ?_);rintro e4 w4 ⟨rfl,hk4⟩;have y1:=hk4.cell (p:=⟨wr.heap.size,1,none⟩) (v:=.int .i64 r.code) (by go_simp);have y2:=hk4.cell (p:=⟨wr.heap.size,2,none⟩) (v:=.int .i64 r.kind) (by go_simp);have y3:=hk4.cell (p:=⟨wr.heap.size,3,none⟩) (v:=.int .i64 r.basis) (by go_simp);have hz4:=World.block_lt_of_cell? _ _ y1;have HM4:=Lib.hid ((HW.out.2.2.alloc _).keeps hk4);have hlk:(Instr.lookup 140 (.map (some w2.heap.size)) (.int .i64 r.code) false).run Tryz.prog (w4.alloc (.cells #[.int .i64 a.code,.int .i64 a.kind,.int .i64 a.basis,.int .i64 a.parent] 68))=.ok (.bool (s)) (w4.alloc (.cells #[.int .i64 a.code,.int .i64 a.kind,.int .i64 a.basis,.int .i64 a.parent] 68)):=(by have:=(HM4.out.alloc (.cells #[.int .i64 a.code,.int .i64 a.kind,.int .i64 a.basis,.int .i64 a.parent] 68)).look Tryz.underlying140 (fun w=>Tryz.zeroValue4 w) (a:=r.code) HI.out _ rfl;rw [seenI_get',seenR,HSN.out] at this;exact this);have K4:=Lib.hid hk4;clear hk4);go_ret;rw [HBD.out];exact ⟨rfl,((HW.out.1.alloc _).trans K4.out).alloc _⟩)
     | true=>
      cases s with
      | true=>
       have HBD:=Lib.hid (accB_3 (g:=g) (k:=k) (by rw [HL.out];exact hlt) (by rw [HL.out,okRole_at hlt,HR.out,HA1.out,HP1.out];simp [HSN.out,true]))
       (go_wp2_with (go_at_call 103;(refine (HF.out _ (HC.out.keeps (HW.out.1.alloc _))).mono ?_);rintro e4 w4 ⟨rfl,hk4⟩;have y1:=hk4.cell (p:=⟨wr.heap.size,1,none⟩) (v:=.int .i64 r.code) (by go_simp);have y2:=hk4.cell (p:=⟨wr.heap.size,2,none⟩) (v:=.int .i64 r.kind) (by go_simp);have y3:=hk4.cell (p:=⟨wr.heap.size,3,none⟩) (v:=.int .i64 r.basis) (by go_simp);have hz4:=World.block_lt_of_cell? _ _ y1;have HM4:=Lib.hid ((HW.out.2.2.alloc _).keeps hk4);have hlk:(Instr.lookup 140 (.map (some w2.heap.size)) (.int .i64 r.code) false).run Tryz.prog (w4.alloc (.cells #[.int .i64 a.code,.int .i64 a.kind,.int .i64 a.basis,.int .i64 a.parent] 68))=.ok (.bool (true)) (w4.alloc (.cells #[.int .i64 a.code,.int .i64 a.kind,.int .i64 a.basis,.int .i64 a.parent] 68)):=(by have:=(HM4.out.alloc (.cells #[.int .i64 a.code,.int .i64 a.kind,.int .i64 a.basis,.int .i64 a.parent] 68)).look Tryz.underlying140 (fun w=>Tryz.zeroValue4 w) (a:=r.code) HI.out _ rfl;rw [seenI_get',seenR,HSN.out] at this;exact this);have K4:=Lib.hid hk4;clear hk4);go_ret;rw [HBD.out];exact ⟨rfl,((HW.out.1.alloc _).trans K4.out).alloc _⟩)
      | false=>
       cases hk1:(a.kind == r.kind) with
       | false=>
        have HBD:=Lib.hid (accB_3 (g:=g) (k:=k) (by rw [HL.out];exact hlt) (by rw [HL.out,okRole_at hlt,HR.out,HA1.out,HP1.out];simp [HSN.out,hk1]))
        have e1:(a.kind != r.kind)=true:=by simp [bne,hk1]
        clear hk1
        (go_wp2_with (go_at_call 103;(refine (HF.out _ (HC.out.keeps (HW.out.1.alloc _))).mono ?_);rintro e4 w4 ⟨rfl,hk4⟩;have y1:=hk4.cell (p:=⟨wr.heap.size,1,none⟩) (v:=.int .i64 r.code) (by go_simp);have y2:=hk4.cell (p:=⟨wr.heap.size,2,none⟩) (v:=.int .i64 r.kind) (by go_simp);have y3:=hk4.cell (p:=⟨wr.heap.size,3,none⟩) (v:=.int .i64 r.basis) (by go_simp);have hz4:=World.block_lt_of_cell? _ _ y1;have HM4:=Lib.hid ((HW.out.2.2.alloc _).keeps hk4);have hlk:(Instr.lookup 140 (.map (some w2.heap.size)) (.int .i64 r.code) false).run Tryz.prog (w4.alloc (.cells #[.int .i64 a.code,.int .i64 a.kind,.int .i64 a.basis,.int .i64 a.parent] 68))=.ok (.bool (false)) (w4.alloc (.cells #[.int .i64 a.code,.int .i64 a.kind,.int .i64 a.basis,.int .i64 a.parent] 68)):=(by have:=(HM4.out.alloc (.cells #[.int .i64 a.code,.int .i64 a.kind,.int .i64 a.basis,.int .i64 a.parent] 68)).look Tryz.underlying140 (fun w=>Tryz.zeroValue4 w) (a:=r.code) HI.out _ rfl;rw [seenI_get',seenR,HSN.out] at this;exact this);have K4:=Lib.hid hk4;clear hk4);go_ret;rw [HBD.out];exact ⟨rfl,((HW.out.1.alloc _).trans K4.out).alloc _⟩)
       | true=>
        have e1:(a.kind != r.kind)=false:=by simp [bne,hk1]
        cases hk2:(a.basis == r.basis) with
        | false=>
         have HBD:=Lib.hid (accB_3 (g:=g) (k:=k) (by rw [HL.out];exact hlt) (by rw [HL.out,okRole_at hlt,HR.out,HA1.out,HP1.out];simp [HSN.out,hk2]))
         have e2:(a.basis != r.basis)=true:=by simp [bne,hk2]
         clear hk1 hk2
         (go_wp2_with (go_at_call 103;(refine (HF.out _ (HC.out.keeps (HW.out.1.alloc _))).mono ?_);rintro e4 w4 ⟨rfl,hk4⟩;have y1:=hk4.cell (p:=⟨wr.heap.size,1,none⟩) (v:=.int .i64 r.code) (by go_simp);have y2:=hk4.cell (p:=⟨wr.heap.size,2,none⟩) (v:=.int .i64 r.kind) (by go_simp);have y3:=hk4.cell (p:=⟨wr.heap.size,3,none⟩) (v:=.int .i64 r.basis) (by go_simp);have hz4:=World.block_lt_of_cell? _ _ y1;have HM4:=Lib.hid ((HW.out.2.2.alloc _).keeps hk4);have hlk:(Instr.lookup 140 (.map (some w2.heap.size)) (.int .i64 r.code) false).run Tryz.prog (w4.alloc (.cells #[.int .i64 a.code,.int .i64 a.kind,.int .i64 a.basis,.int .i64 a.parent] 68))=.ok (.bool (false)) (w4.alloc (.cells #[.int .i64 a.code,.int .i64 a.kind,.int .i64 a.basis,.int .i64 a.parent] 68)):=(by have:=(HM4.out.alloc (.cells #[.int .i64 a.code,.int .i64 a.kind,.int .i64 a.basis,.int .i64 a.parent] 68)).look Tryz.underlying140 (fun w=>Tryz.zeroValue4 w) (a:=r.code) HI.out _ rfl;rw [seenI_get',seenR,HSN.out] at this;exact this);have K4:=Lib.hid hk4;clear hk4);go_ret;rw [HBD.out];exact ⟨rfl,((HW.out.1.alloc _).trans K4.out).alloc _⟩)
        | true=>
         have e2:(a.basis != r.basis)=false:=by simp [bne,hk2]
         have HGD:Hid (okRole g.chart l k=true):=Lib.hid (by rw [okRole_at hlt,HR.out,HA1.out,HP1.out,HSN.out,hk1,hk2];rfl)
         have HTK:Hid (l.take (k+1)=l.take k ++ [r]):=Lib.hid (by rw [take_snoc _ _ hlt,HR.out])
         clear hk1 hk2
         go_wp2_with (first | (go_at_call 103;(refine (HF.out _ (HC.out.keeps (HW.out.1.alloc _))).mono ?_);rintro e4 w4 ⟨rfl,hk4⟩;have y1:=hk4.cell (p:=⟨wr.heap.size,1,none⟩) (v:=.int .i64 r.code) (by go_simp);have y2:=hk4.cell (p:=⟨wr.heap.size,2,none⟩) (v:=.int .i64 r.kind) (by go_simp);have y3:=hk4.cell (p:=⟨wr.heap.size,3,none⟩) (v:=.int .i64 r.basis) (by go_simp);have hz4:=World.block_lt_of_cell? _ _ y1;have HM4:=Lib.hid ((HW.out.2.2.alloc _).keeps hk4);have hlk:(Instr.lookup 140 (.map (some w2.heap.size)) (.int .i64 r.code) false).run Tryz.prog (w4.alloc (.cells #[.int .i64 a.code,.int .i64 a.kind,.int .i64 a.basis,.int .i64 a.parent] 68))=.ok (.bool (false)) (w4.alloc (.cells #[.int .i64 a.code,.int .i64 a.kind,.int .i64 a.basis,.int .i64 a.parent] 68)):=(by have:=(HM4.out.alloc (.cells #[.int .i64 a.code,.int .i64 a.kind,.int .i64 a.basis,.int .i64 a.parent] 68)).look Tryz.underlying140 (fun w=>Tryz.zeroValue4 w) (a:=r.code) HI.out _ rfl;rw [seenI_get',seenR,HSN.out] at this;exact this);have K4:=Lib.hid hk4;clear hk4) | (refine wpList_vstore (K:=intK) rfl _ _ _ 140 rfl Tryz.underlying140 w2.heap.size k rfl (HM4.out.alloc _) (by unfold maxLen;omega) r.code HI.out rfl (.bool true) rfl (seenI ((l.take (k+1)).map Rol.code)) (by rw [HTK.out,List.map_append];exact (seenI_snoc _ _).1) (fun d _ hd=>by rw [HTK.out,List.map_append];exact (seenI_snoc _ _).2 d hd) ?_;intro w5 hm5 hg5;have HX:Hid (Keeps w w5∧w3.grownBy w5 (some w2.heap.size)∧VMap intK w5 w2.heap.size (k+1) (seenI ((l.take (k+1)).map Rol.code))):=Lib.hid ⟨Below.grown (((HW.out.1.alloc _).trans K4.out).alloc _) hg5 (((HW.out.1.alloc _).trans K4.out).alloc _).size (fun j hj=>by cases hj;exact K2.out.size),(((HW.out.2.1.trans (World.grownBy_alloc _ _ _)).trans (keeps_grown K4.out _)).trans (World.grownBy_alloc _ _ _)).trans hg5,hm5⟩;clear hm5 hg5))
         go_roundw
         case rel=>exact ⟨k+1,by omega,by go_num,Lib.hid (fun j hj=>by by_cases h:j < k;(exact HN.out j h);(rw [show j=k from by omega];exact HGD.out)),HX⟩
         case measure=>simp [intOf];omega
    ·have HGD:=Lib.hid (accB_4 (g:=g) H1.out H2.out (fun j hj=>by rw [HL.out] at hj ⊢;rw [HLL.out] at hj;exact HN.out j (by omega)))
     go_wp2_with fail
     go_ret
     rw [HGD.out]
     exact ⟨rfl,HW.out.1⟩
end Go.Proofs.YtoaidbhiciaeaaaGreat

end
section
namespace Go.Proofs.YtoaidbhiciaeaaaGreat
open Go.RowKit
theorem entB_1 {g:Grp} {e:Ent} (h:nameB e.name=false):entB g e=false:=by unfold entB;rw [h];rfl
theorem entB_2 {g:Grp} {e:Ent} (h:curB e.cur=false):entB g e=false:=by unfold entB;rw [h];simp
theorem entB_3 {g:Grp} {e:Ent} (h:mvalidB e g.chart=false):entB g e=false:=by unfold entB;rw [h];simp
theorem entB_4 {g:Grp} {e:Ent} (h1:nameB e.name=true) (h2:curB e.cur=true) (h3:mvalidB e g.chart=true):entB g e=!(e.links.any (fun l=>closedP (rolesL g.rl) l.to)):=by unfold entB;rw [h1,h2,h3];simp
set_option maxRecDepth 100000 in
theorem ent_any (g:Grp) (ev:Value) (e:Ent) (aoC:Option Addr) (capC bC oC:Nat) (aoX:Option Addr) (capX bX oX:Nat) (aoL:Option Addr) (capL bL oL:Nat) (w:World) (H:Accs w aoC g.chart capC bC oC) (HX:Accs w aoX e.chart capX bX oX) (HLn:Lnks w aoL e.links capL bL oL)
  (hlen:g.chart.length≤200) (hok:∀ x∈g.chart,x.OkA) (hro:g.rl.Ok) (heo:e.Ok) :
  Calls Tryz.prog 65 #[.agg #[.string g.cur,.int .i64 g.y,.int .i64 g.m,.int .i64 g.n,.slice aoC g.chart.length capC,.int .i64 g.rl.r0,.int .i64 g.rl.r1,.int .i64 g.rl.r2,.int .i64 g.rl.r3,.int .i64 g.rl.r4,.int .i64 g.rl.r5,.int .i64 g.rl.r6,.int .i64 g.rl.r7,.int .i64 g.rl.r8,.int .i64 g.rl.r9,.int .i64 g.rl.r10,.int .i64 g.rl.r11,.int .i64 g.rl.r12,.int .i64 g.rl.r13,.int .i64 g.rl.r14,ev],.agg #[.string e.name,.string e.cur,.slice aoX e.chart.length capX,.slice aoL e.links.length capL,.bool e.joint]] w fun r w'=>r=.returned (.bool (entB g e))∧Keeps w w':=by
 have hmm:=@run_makeMap Tryz.prog
 obtain ⟨ho1,ho2,ho3,ho4,ho5,ho6⟩:=heo
 have HGB:Hid (RowB (w.alloc (.cells (g.cells (.slice aoC g.chart.length capC) ev).toArray 29)) w.heap.size 29 (g.cells (.slice aoC g.chart.length capC) ev)):=Lib.hid (RowB.new w _ _)
 have HN:Hid (∀ W,Calls Tryz.prog 104 #[.string e.name] W fun r w'=>r=.returned (.bool (nameB e.name))∧W=w'):=Lib.hid (fun W=>nameP_any _ ho1 W)
 have HU:Hid (∀ W,Calls Tryz.prog 62 #[.string e.cur] W fun r w'=>r=.returned (.bool (curB e.cur))∧W=w'):=Lib.hid (fun W=>curP_any _ ho2 W)
 have HV:Hid (∀ W,Keeps w W→Calls Tryz.prog 105 #[.agg #[.string e.name,.string e.cur,.slice aoX e.chart.length capX,.slice aoL e.links.length capL,.bool e.joint],.slice aoC g.chart.length capC] W fun r w'=>r=.returned (.bool (mvalidB e g.chart))∧Keeps W w'):=Lib.hid (fun W hk=>mvalid_any e _ g.chart aoC capC bC oC W ⟨_,_,rfl,⟨aoX,capX,bX,oX,rfl,HX.keeps hk⟩,⟨aoL,capL,bL,oL,rfl,HLn.keeps hk⟩⟩ (H.keeps hk) hlen ho3 ho4 hok ho5 ho6)
 have HLK:=Lib.hid HLn
 have HO6:=Lib.hid ho6
 clear H HX HLn hok ho5 ho6
 cases h1:nameB e.name with
 | false=>
  have HBD:=Lib.hid (entB_1 (g:=g) h1)
  rw [h1] at HN
  clear h1
  go_enter Tryz.func65,Tryz.ntmps65
  go_wp2_with (go_at_call 104;(refine (HN.out _).mono ?_);rintro e1 w1 ⟨rfl,rfl⟩)
  go_ret
  rw [HBD.out]
  exact ⟨rfl,((Keeps.refl w).alloc _).alloc _⟩
 | true=>
  rw [h1] at HN
  cases h2:curB e.cur with
  | false=>
   have HBD:=Lib.hid (entB_2 (g:=g) h2)
   rw [h2] at HU
   clear h1 h2
   go_enter Tryz.func65,Tryz.ntmps65
   go_wp2_with (first | (go_at_call 104;(refine (HN.out _).mono ?_);rintro e1 w1 ⟨rfl,rfl⟩) | (go_at_call 62;(refine (HU.out _).mono ?_);rintro e2 w2 ⟨rfl,rfl⟩))
   go_ret
   rw [HBD.out]
   exact ⟨rfl,((Keeps.refl w).alloc _).alloc _⟩
  | true=>
   rw [h2] at HU
   cases h3:mvalidB e g.chart with
   | false=>
    have HBD:=Lib.hid (entB_3 (g:=g) h3)
    rw [h3] at HV
    clear h1 h2 h3
    go_enter Tryz.func65,Tryz.ntmps65
    go_wp2_with (first | (go_at_call 104;(refine (HN.out _).mono ?_);rintro e1 w1 ⟨rfl,rfl⟩) | (go_at_call 62;(refine (HU.out _).mono ?_);rintro e2 w2 ⟨rfl,rfl⟩) | (go_at_call 105;(refine (HV.out _ (((Keeps.refl w).alloc _).alloc _)).mono ?_);rintro e2 w2 ⟨rfl,hk2⟩;have K2:=Lib.hid ((((Keeps.refl w).alloc (.cells (g.cells (.slice aoC g.chart.length capC) ev).toArray 29)).alloc (.cells #[.string e.name,.string e.cur,.slice aoX e.chart.length capX,.slice aoL e.links.length capL,.bool e.joint] 106)).trans hk2);have G2:=Lib.hid ((HGB.out.alloc (.cells #[.string e.name,.string e.cur,.slice aoX e.chart.length capX,.slice aoL e.links.length capL,.bool e.joint] 106)).keeps hk2);have x3:=hk2.cell (p:=⟨w.heap.size+1,3,none⟩) (v:=.slice aoL e.links.length capL) (by go_simp);have hz2:=World.block_lt_of_cell? _ _ x3;have X3:=Lib.hid x3;clear hk2))
    go_ret
    rw [HBD.out]
    exact ⟨rfl,K2.out⟩
   | true=>
    rw [h3] at HV
    have HGD:=Lib.hid (entB_4 (g:=g) h1 h2 h3)
    clear h1 h2 h3
    obtain ⟨l,hl⟩:∃ l,rolesL g.rl=l:=⟨_,rfl⟩
    have hll:l.length=15:=by rw [← hl];rfl
    have HRO:Hid (∀ W,Calls Tryz.prog 102 #[.agg #[.int .i64 g.rl.r0,.int .i64 g.rl.r1,.int .i64 g.rl.r2,.int .i64 g.rl.r3,.int .i64 g.rl.r4,.int .i64 g.rl.r5,.int .i64 g.rl.r6,.int .i64 g.rl.r7,.int .i64 g.rl.r8,.int .i64 g.rl.r9,.int .i64 g.rl.r10,.int .i64 g.rl.r11,.int .i64 g.rl.r12,.int .i64 g.rl.r13,.int .i64 g.rl.r14]] W fun e w'=>∃ B,W.heap.size≤B∧e=.returned (.slice (some ⟨B,0,none⟩) 15 15)∧Recs w' 5 Rol.cells (some ⟨B,0,none⟩) l 15 B 0∧Keeps W w'):=Lib.hid (fun W=>(rolesP_any g.rl W).mono (by rintro e w' ⟨rfl,hs,hk⟩;exact ⟨_,Nat.le_succ _,rfl,by rw [← hl];exact hs,hk⟩))
    have HIA:Hid (∀ q∈l,I64 q.code):=Lib.hid (by rw [← hl];exact hro)
    rw [hl] at HGD
    have HLL:=Lib.hid hll
    clear hl hll hro
    go_enter Tryz.func65,Tryz.ntmps65
    go_wp2_with (first | (go_at_call 104;(refine (HN.out _).mono ?_);rintro e1 w1 ⟨rfl,rfl⟩) | (go_at_call 62;(refine (HU.out _).mono ?_);rintro e2 w2 ⟨rfl,rfl⟩) | (go_at_call 105;(refine (HV.out _ (((Keeps.refl w).alloc _).alloc _)).mono ?_);rintro e2 w2 ⟨rfl,hk2⟩;have K2:=Lib.hid ((((Keeps.refl w).alloc (.cells (g.cells (.slice aoC g.chart.length capC) ev).toArray 29)).alloc (.cells #[.string e.name,.string e.cur,.slice aoX e.chart.length capX,.slice aoL e.links.length capL,.bool e.joint] 106)).trans hk2);have G2:=Lib.hid ((HGB.out.alloc (.cells #[.string e.name,.string e.cur,.slice aoX e.chart.length capX,.slice aoL e.links.length capL,.bool e.joint] 106)).keeps hk2);have x3:=hk2.cell (p:=⟨w.heap.size+1,3,none⟩) (v:=.slice aoL e.links.length capL) (by go_simp);have hz2:=World.block_lt_of_cell? _ _ x3;have X3:=Lib.hid x3;clear hk2) | (go_at_call 102;(refine (HRO.out _).mono ?_);rintro e3 w3 ⟨B,hB,rfl,hs3,hk3⟩;have HS3:=Lib.hid hs3;have K3:=Lib.hid (((K2.out.alloc (.map #[] 0)).alloc (.cells #[.map (some w2.heap.size)] 140)).trans hk3);have HB3:Hid (w2.heap.size+1 < B∧w2.heap.size+1 < w3.heap.size):=Lib.hid (by have:=hk3.size;simp only [World.size_alloc] at hB this;omega);have m3:=hk3.cell (p:=⟨w2.heap.size+1,0,none⟩) (v:=.map (some w2.heap.size)) (by have:=RowB.cell (RowB.new (w2.alloc (.map #[] 0)) 140 [.map (some w2.heap.size)]) 0 _ rfl;rw [World.size_alloc] at this;exact this);have HM3:=Lib.hid (((VMap.made intK w2).alloc (.cells #[.map (some w2.heap.size)] 140)).keeps hk3);have x3':=hk3.cell (Keeps.cell (((Keeps.refl w2).alloc (.map #[] 0)).alloc (.cells #[.map (some w2.heap.size)] 140)) X3.out);clear hs3 hk3 hB) | (refine wpList_load_mid rfl 26 _ rfl w.heap.size 5 rfl g.rl.vals _ (range_sub (RowB.range ((G2.out.alloc _).alloc _)) 5 _ (grp_roles g _ _)) Tryz.underlying26 rfl rolesSize ?_))
    go_loopw [30] (fun vi wr=>∃ k:Nat,k≤15∧vi=.int .i64 k∧Hid (Keeps w wr∧w3.grownBy wr (some w2.heap.size)∧VMap intK wr w2.heap.size k (clsF (l.take k)))) (fun vi _=>15 - (intOf vi).toNat)
    case atStart=>exact ⟨0,Nat.zero_le _,rfl,Lib.hid ⟨K3.out,World.grownBy.refl _ _,by rw [List.take_zero,clsF_nil];exact HM3.out⟩⟩
    case round=>
     obtain ⟨k,hk,rfl,HW⟩:=hrel
     have m4:=HW.out.2.1.cell m3 (by intro e;simp at e)
     have hzr:=World.block_lt_of_cell? _ _ m4
     simp only at hzr
     by_cases hlt15:k < 15
     ·have hlt:k < l.length:=by rw [HLL.out];exact hlt15
      have hsr:=Sl.grownR HS3.out HW.out.2.1 (by intro e;have:=HB3.out.1;simp at e;omega)
      have hix:=Sl.at hsr Tryz.underlying166 Tryz.sizeOf169 k hlt
      rw [HLL.out] at hix
      obtain ⟨r,hr⟩:∃ r,l[k]=r:=⟨_,rfl⟩
      have hsr:Recs wr 5 Rol.cells (some ⟨B,0,none⟩) l 15 B 0:=hsr
      have c0:=hsr.cell Rol.len k hlt 0 (.string r.nm) (by rw [hr];rfl)
      have c1:=hsr.cell Rol.len k hlt 1 (.int .i64 r.code) (by rw [hr];rfl)
      have c2:=hsr.cell Rol.len k hlt 2 (.int .i64 r.kind) (by rw [hr];rfl)
      have c3:=hsr.cell Rol.len k hlt 3 (.int .i64 r.basis) (by rw [hr];rfl)
      have c4:=hsr.cell Rol.len k hlt 4 (.bool r.mapped) (by rw [hr];rfl)
      simp only [Nat.add_zero,Nat.zero_add] at c0 c1 c2 c3 c4 hix
      have HI:Hid (I64 r.code):=Lib.hid (by rw [← hr];exact HIA.out _ (List.getElem_mem ..))
      have HTK:Hid (l.take (k+1)=l.take k ++ [r]):=Lib.hid (by rw [take_snoc _ _ hlt,hr])
      clear hr hsr
      go_wp2_with (refine wpList_vstore (K:=intK) rfl _ _ _ 140 rfl Tryz.underlying140 w2.heap.size k rfl (HW.out.2.2.alloc _) (by unfold maxLen;omega) r.code HI.out rfl (.bool (!r.mapped)) rfl (clsF (l.take (k+1))) (by rw [HTK.out];exact (clsF_snoc _ _).1) (fun d _ hd=>by rw [HTK.out];exact (clsF_snoc _ _).2 d hd) ?_;intro w5 hm5 hg5;have HX:Hid (Keeps w w5∧w3.grownBy w5 (some w2.heap.size)∧VMap intK w5 w2.heap.size (k+1) (clsF (l.take (k+1)))):=Lib.hid ⟨Below.grown (HW.out.1.alloc _) hg5 (HW.out.1.alloc _).size (fun j hj=>by cases hj;exact K2.out.size),(HW.out.2.1.trans (World.grownBy_alloc _ _ _)).trans hg5,hm5⟩;clear hm5 hg5)
      go_roundw
      case rel=>exact ⟨k+1,by omega,by go_num,HX⟩
      case measure=>simp [intOf];omega
     ·have x4:=HW.out.2.1.cell x3' (by intro e;simp at e;omega)
      have hzx:=World.block_lt_of_cell? _ _ x4
      have HCL:Hid (Calls Tryz.prog 106 #[.slice aoL e.links.length capL,.func (.func 107) #[] #[.pointer (some ⟨w2.heap.size+1,0,none⟩)]] wr fun r w'=>r=.returned (.bool (e.links.any (fun x=>closedP l x.to)))∧Keeps wr w'):=Lib.hid (hasL_any l (w2.heap.size+1) w2.heap.size k aoL e.links capL bL oL wr (HLK.out.keeps HW.out.1) m4 (by have:=HW.out.2.2;rwa [List.take_of_length_le (by rw [HLL.out];omega)] at this) HO6.out)
      obtain ⟨q,hq⟩:∃ q,e.links.any (fun x=>closedP l x.to)=q:=⟨_,rfl⟩
      rw [hq] at HCL HGD
      clear hq
      go_wp2_with (go_at_call 106;(refine HCL.out.mono ?_);rintro e6 w6 ⟨rfl,hk6⟩)
      go_ret
      rw [HGD.out]
      exact ⟨rfl,HW.out.1.trans hk6⟩
end Go.Proofs.YtoaidbhiciaeaaaGreat

end
