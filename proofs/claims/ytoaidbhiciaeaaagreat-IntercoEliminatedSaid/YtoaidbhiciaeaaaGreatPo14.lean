/- Walks and plain facts that the claim rests on (RMValidW, MValidW). No condition. -/
import Derived.Test.YtoaidbhiciaeaaaGreatPo13
import Derived.Deep.QuietTactic
import Derived.BigQuiet
set_option linter.unusedSimpArgs false
set_option linter.unusedVariables false
set_option maxHeartbeats 16000000
section
namespace Go.Proofs.YtoaidbhiciaeaaaGreat
open Go.RowKit
theorem link_facts (x c:List Acc) (l:Lnk):∃ (a:Acc) (p:Bool) (d:Acc) (q:Bool),AccO (findA x l.frm)=.tuple #[.agg #[.int .i64 a.code,.int .i64 a.kind,.int .i64 a.basis,.int .i64 a.parent],.bool p]∧
  AccO (findA c l.to)=.tuple #[.agg #[.int .i64 d.code,.int .i64 d.kind,.int .i64 d.basis,.int .i64 d.parent],.bool q]∧linkB x c l=(p && q && (a.kind == d.kind) && dateB l.since):=by
 refine ⟨_,_,_,_,rfl,rfl,?_⟩
 unfold linkB
 cases findA x l.frm <;> cases findA c l.to <;> simp
theorem any_take_no {ls:List Lnk} {k:Nat} (hk:k < ls.length) (h:∀ i (hi:i < ls.length),i < k→sameK ls[i] ls[k]=false):(ls.take k).any (fun a=>sameK a ls[k])=false:=by
 rw [Bool.eq_false_iff]
 intro h1
 rw [List.any_eq_true] at h1
 obtain ⟨a,ha,h2⟩:=h1
 obtain ⟨i,hi,rfl⟩:=List.getElem_of_mem ha
 rw [List.length_take] at hi
 rw [List.getElem_take] at h2
 rw [h i (by omega) (by omega)] at h2
 cases h2
theorem any_take_yes {ls:List Lnk} {k i:Nat} (hk:k < ls.length) (hi:i < k) (h:sameK (ls[i]'(by omega)) ls[k]=true):(ls.take k).any (fun a=>sameK a ls[k])=true:=by
 rw [List.any_eq_true]
 refine ⟨ls[i]'(by omega),?_,h⟩
 rw [List.mem_take_iff_getElem]
 exact ⟨i,by omega,rfl⟩
set_option maxRecDepth 100000 in
theorem rmvalid_any (en:Ent) (v:Value) (c:List Acc) (ao:Option Addr) (cap b o:Nat) (w:World) (HE:EntV w v en) (H2:Accs w ao c cap b o) (hc:c.length≤200) (hx:en.chart.length≤200) (hl:en.links.length≤400) :
  Calls Tryz.prog 137 #[v,.slice ao c.length cap] w fun e w'=>e=.returned (.bool (mvalidB en c))∧Keeps w w':=by
 obtain ⟨cv,lv,rfl,⟨aoC,capC,bC,oC,rfl,HC⟩,⟨aoL,capL,bL,oL,rfl,HL⟩⟩:=HE
 have hleL:=Sl.le HL
 have hcapL:=Sl.cap HL
 have HC:=Lib.hid HC
 have HL:=Lib.hid HL
 have HC2:=Lib.hid H2
 have HV1:Hid (∀ W,Accs W ao c cap b o→Calls Tryz.prog 132 #[.slice ao c.length cap,.bool true] W fun e w'=>e=.returned (.bool (validRB c true))∧Keeps W w'):=Lib.hid (fun W h=>rvalid_any c true ao cap b o W h hc)
 have HV2:Hid (∀ W,Accs W aoC en.chart capC bC oC→Calls Tryz.prog 132 #[.slice aoC en.chart.length capC,.bool false] W fun e w'=>e=.returned (.bool (validRB en.chart false))∧Keeps W w'):=Lib.hid (fun W h=>rvalid_any en.chart false aoC capC bC oC W h hx)
 clear H2
 cases h1:validRB c true with
 | false=>
  have HF:=Lib.hid (mvalidB_1 (en:=en) h1)
  rw [h1] at HV1
  clear h1
  go_enter Tryz.func137,Tryz.ntmps137
  go_wp2_with (go_at_call 132;(with_reducible refine (HV1.out _ (HC2.out.keeps ((Keeps.refl w).alloc _))).mono ?_);rintro e1 w1 ⟨rfl,hk1⟩;have K1:=Lib.hid hk1;have b_2:=hk1.cell (p:=⟨w.heap.size,2,none⟩) (v:=.slice aoC en.chart.length capC) (by go_simp);have b_3:=hk1.cell (p:=⟨w.heap.size,3,none⟩) (v:=.slice aoL en.links.length capL) (by go_simp);have hz1:=World.block_lt_of_cell? _ _ b_3;clear hk1)
  go_ret
  rw [HF.out]
  exact ⟨rfl,((Keeps.refl w).alloc _).trans K1.out⟩
 | true=>
  rw [h1] at HV1
  have H1:=Lib.hid h1
  clear h1
  cases h2:validRB en.chart false with
  | false=>
   have HF:=Lib.hid (mvalidB_2 (c:=c) h2)
   rw [h2] at HV2
   clear h2
   go_enter Tryz.func137,Tryz.ntmps137
   go_wp2_with (first | (go_at_call 132;(with_reducible refine (HV2.out _ (HC.out.keeps (((Keeps.refl w).alloc _).trans K1.out))).mono ?_);rintro e2 w2 ⟨rfl,hk2⟩;have c_3:=hk2.cell b_3;have hz2:=World.block_lt_of_cell? _ _ c_3;have K2:=Lib.hid (K1.out.trans hk2);clear hk2 b_2 b_3) | (go_at_call 132;(with_reducible refine (HV1.out _ (HC2.out.keeps ((Keeps.refl w).alloc _))).mono ?_);rintro e1 w1 ⟨rfl,hk1⟩;have K1:=Lib.hid hk1;have b_2:=hk1.cell (p:=⟨w.heap.size,2,none⟩) (v:=.slice aoC en.chart.length capC) (by go_simp);have b_3:=hk1.cell (p:=⟨w.heap.size,3,none⟩) (v:=.slice aoL en.links.length capL) (by go_simp);have hz1:=World.block_lt_of_cell? _ _ b_3;clear hk1))
   go_ret
   rw [HF.out]
   exact ⟨rfl,((Keeps.refl w).alloc _).trans K2.out⟩
  | true=>
   rw [h2] at HV2
   have H2:=Lib.hid h2
   clear h2
   go_enter Tryz.func137,Tryz.ntmps137
   go_wp2_with (first | (go_at_call 132;(with_reducible refine (HV2.out _ (HC.out.keeps (((Keeps.refl w).alloc _).trans K1.out))).mono ?_);rintro e2 w2 ⟨rfl,hk2⟩;have c_3:=hk2.cell b_3;have hz2:=World.block_lt_of_cell? _ _ c_3;have K2:=Lib.hid (K1.out.trans hk2);clear hk2 b_2 b_3) | (go_at_call 132;(with_reducible refine (HV1.out _ (HC2.out.keeps ((Keeps.refl w).alloc _))).mono ?_);rintro e1 w1 ⟨rfl,hk1⟩;have K1:=Lib.hid hk1;have b_2:=hk1.cell (p:=⟨w.heap.size,2,none⟩) (v:=.slice aoC en.chart.length capC) (by go_simp);have b_3:=hk1.cell (p:=⟨w.heap.size,3,none⟩) (v:=.slice aoL en.links.length capL) (by go_simp);have hz1:=World.block_lt_of_cell? _ _ b_3;clear hk1))
   go_loopw [5] (fun vi wr=>∃ k:Nat,k≤en.links.length∧vi=.int .i64 k∧Hid (∀ j < k,okL en.chart c en.links j=true)∧Hid (Keeps (w.alloc (.cells #[.string en.name,.string en.cur,.slice aoC en.chart.length capC,.slice aoL en.links.length capL,.bool en.joint] 106)) wr)) (fun vi _=>en.links.length - (intOf vi).toNat)
   case atStart=>exact ⟨0,Nat.zero_le _,rfl,Lib.hid (fun j hj=>absurd hj (Nat.not_lt_zero _)),Lib.hid K2.out⟩
   case round=>
    obtain ⟨k,hk,rfl,HN,HW⟩:=hrel
    have d_3:=HW.out.cell (p:=⟨w.heap.size,3,none⟩) (v:=.slice aoL en.links.length capL) (by go_simp)
    by_cases hlt:k < en.links.length
    ·have HLr:=HL.out.keeps (((Keeps.refl w).alloc _).trans HW.out)
     have hix:=Sl.at HLr Tryz.underlying104 Tryz.sizeOf162 k hlt
     have l0:=HLr.cell Lnk.len k hlt 0 _ rfl
     have l1:=HLr.cell Lnk.len k hlt 1 _ rfl
     have l2:=HLr.cell Lnk.len k hlt 2 _ rfl
     simp only [Nat.add_zero] at l0
     have d_2:=HW.out.cell (p:=⟨w.heap.size,2,none⟩) (v:=.slice aoC en.chart.length capC) (by go_simp)
     have hzr:=World.block_lt_of_cell? _ _ d_2
     have hokl:=okL_at (x:=en.chart) (c:=c) hlt
     obtain ⟨a,p,d,q,ha,hd,hlb⟩:=link_facts en.chart c en.links[k]
     have HA:Hid (∀ W,Accs W aoC en.chart capC bC oC→Calls Tryz.prog 169 #[.slice aoC en.chart.length capC,.int .i64 en.links[k].frm] W fun e w'=>e=.returned (.tuple #[.agg #[.int .i64 a.code,.int .i64 a.kind,.int .i64 a.basis,.int .i64 a.parent],.bool p])∧Keeps W w'):=Lib.hid (fun W h=>by have:=rfind_any en.chart en.links[k].frm aoC capC bC oC W h;rw [ha] at this;exact this)
     have HB:Hid (∀ W,Accs W ao c cap b o→Calls Tryz.prog 169 #[.slice ao c.length cap,.int .i64 en.links[k].to] W fun e w'=>e=.returned (.tuple #[.agg #[.int .i64 d.code,.int .i64 d.kind,.int .i64 d.basis,.int .i64 d.parent],.bool q])∧Keeps W w'):=Lib.hid (fun W h=>by have:=rfind_any c en.links[k].to ao cap b o W h;rw [hd] at this;exact this)
     obtain ⟨dv,hdv⟩:∃ dv,dateB en.links[k].since=dv:=⟨_,rfl⟩
     have HD:Hid (∀ W,Calls Tryz.prog 94 #[.int .i64 en.links[k].since] W fun e w'=>e=.returned (.bool dv)∧W=w'):=Lib.hid (fun W=>by have:=rdate_any en.links[k].since W;rw [hdv] at this;exact this)
     rw [hdv] at hlb
     rw [hlb] at hokl
     clear HLr ha hd hlb hdv
     cases p with
     | false=>
      have HQ:=Lib.hid (mvalidB_bad hlt (hokl.trans (by simp only [Bool.and_false,Bool.false_and,Bool.true_and,Bool.and_true])))
      clear hokl
      go_wp2_with (first | (go_at_call 94;refine (HD.out _).mono ?_;rintro e5 w5 ⟨rfl,rfl⟩) | (go_at_call 169;(with_reducible refine (HB.out _ (HC2.out.keeps (((Keeps.refl w).alloc _).trans K3.out))).mono ?_);rintro e4 w4 ⟨rfl,hk4⟩;have z0:=hk4.cell y0;have z2:=hk4.cell y2;have za:=hk4.cell ya;have hz4:=World.block_lt_of_cell? _ _ z0;have hz5:=World.block_lt_of_cell? _ _ za;have K4:=Lib.hid (K3.out.trans hk4);clear hk4 y0 y2 ya x0 x1 x2) | (go_at_call 169;(with_reducible refine (HA.out _ (HC.out.keeps (((Keeps.refl w).alloc _).trans (HW.out.alloc _)))).mono ?_);rintro e3 w3 ⟨rfl,hk3⟩;have x0:=hk3.cell (p:=⟨wr.heap.size,0,none⟩) (v:=.int .i64 en.links[k].frm) (by go_simp);have x1:=hk3.cell (p:=⟨wr.heap.size,1,none⟩) (v:=.int .i64 en.links[k].to) (by go_simp);have x2:=hk3.cell (p:=⟨wr.heap.size,2,none⟩) (v:=.int .i64 en.links[k].since) (by go_simp);have hz3:=World.block_lt_of_cell? _ _ x0;have y0:(w3.alloc (.cells #[.int .i64 a.code,.int .i64 a.kind,.int .i64 a.basis,.int .i64 a.parent] 68)).cell? ⟨wr.heap.size,0,none⟩=some (.int .i64 en.links[k].frm):=(by go_simp);have y2:(w3.alloc (.cells #[.int .i64 a.code,.int .i64 a.kind,.int .i64 a.basis,.int .i64 a.parent] 68)).cell? ⟨wr.heap.size,2,none⟩=some (.int .i64 en.links[k].since):=(by go_simp);have ya:(w3.alloc (.cells #[.int .i64 a.code,.int .i64 a.kind,.int .i64 a.basis,.int .i64 a.parent] 68)).cell? ⟨w3.heap.size,1,none⟩=some (.int .i64 a.kind):=(by go_simp);have K3:=Lib.hid (((HW.out.alloc (.cells #[.int .i64 en.links[k].frm,.int .i64 en.links[k].to,.int .i64 en.links[k].since] 162)).trans hk3).alloc (.cells #[.int .i64 a.code,.int .i64 a.kind,.int .i64 a.basis,.int .i64 a.parent] 68));clear hk3))
      go_ret
      rw [HQ.out]
      exact ⟨rfl,((Keeps.refl w).alloc _).trans (K4.out.alloc _)⟩
     | true=>
      cases q with
      | false=>
       have HQ:=Lib.hid (mvalidB_bad hlt (hokl.trans (by simp only [Bool.and_false,Bool.false_and,Bool.true_and,Bool.and_true])))
       clear hokl
       go_wp2_with (first | (go_at_call 94;refine (HD.out _).mono ?_;rintro e5 w5 ⟨rfl,rfl⟩) | (go_at_call 169;(with_reducible refine (HB.out _ (HC2.out.keeps (((Keeps.refl w).alloc _).trans K3.out))).mono ?_);rintro e4 w4 ⟨rfl,hk4⟩;have z0:=hk4.cell y0;have z2:=hk4.cell y2;have za:=hk4.cell ya;have hz4:=World.block_lt_of_cell? _ _ z0;have hz5:=World.block_lt_of_cell? _ _ za;have K4:=Lib.hid (K3.out.trans hk4);clear hk4 y0 y2 ya x0 x1 x2) | (go_at_call 169;(with_reducible refine (HA.out _ (HC.out.keeps (((Keeps.refl w).alloc _).trans (HW.out.alloc _)))).mono ?_);rintro e3 w3 ⟨rfl,hk3⟩;have x0:=hk3.cell (p:=⟨wr.heap.size,0,none⟩) (v:=.int .i64 en.links[k].frm) (by go_simp);have x1:=hk3.cell (p:=⟨wr.heap.size,1,none⟩) (v:=.int .i64 en.links[k].to) (by go_simp);have x2:=hk3.cell (p:=⟨wr.heap.size,2,none⟩) (v:=.int .i64 en.links[k].since) (by go_simp);have hz3:=World.block_lt_of_cell? _ _ x0;have y0:(w3.alloc (.cells #[.int .i64 a.code,.int .i64 a.kind,.int .i64 a.basis,.int .i64 a.parent] 68)).cell? ⟨wr.heap.size,0,none⟩=some (.int .i64 en.links[k].frm):=(by go_simp);have y2:(w3.alloc (.cells #[.int .i64 a.code,.int .i64 a.kind,.int .i64 a.basis,.int .i64 a.parent] 68)).cell? ⟨wr.heap.size,2,none⟩=some (.int .i64 en.links[k].since):=(by go_simp);have ya:(w3.alloc (.cells #[.int .i64 a.code,.int .i64 a.kind,.int .i64 a.basis,.int .i64 a.parent] 68)).cell? ⟨w3.heap.size,1,none⟩=some (.int .i64 a.kind):=(by go_simp);have K3:=Lib.hid (((HW.out.alloc (.cells #[.int .i64 en.links[k].frm,.int .i64 en.links[k].to,.int .i64 en.links[k].since] 162)).trans hk3).alloc (.cells #[.int .i64 a.code,.int .i64 a.kind,.int .i64 a.basis,.int .i64 a.parent] 68));clear hk3))
       go_ret
       rw [HQ.out]
       exact ⟨rfl,((Keeps.refl w).alloc _).trans (K4.out.alloc _)⟩
      | true=>
       cases hkd:(a.kind == d.kind) with
       | false=>
        have hkd2:(a.kind != d.kind)=true:=by rw [bne,hkd];rfl
        rw [hkd] at hokl
        have HQ:=Lib.hid (mvalidB_bad hlt (hokl.trans (by simp only [Bool.and_false,Bool.false_and,Bool.true_and,Bool.and_true])))
        clear hokl
        go_wp2_with (first | (go_at_call 94;refine (HD.out _).mono ?_;rintro e5 w5 ⟨rfl,rfl⟩) | (go_at_call 169;(with_reducible refine (HB.out _ (HC2.out.keeps (((Keeps.refl w).alloc _).trans K3.out))).mono ?_);rintro e4 w4 ⟨rfl,hk4⟩;have z0:=hk4.cell y0;have z2:=hk4.cell y2;have za:=hk4.cell ya;have hz4:=World.block_lt_of_cell? _ _ z0;have hz5:=World.block_lt_of_cell? _ _ za;have K4:=Lib.hid (K3.out.trans hk4);clear hk4 y0 y2 ya x0 x1 x2) | (go_at_call 169;(with_reducible refine (HA.out _ (HC.out.keeps (((Keeps.refl w).alloc _).trans (HW.out.alloc _)))).mono ?_);rintro e3 w3 ⟨rfl,hk3⟩;have x0:=hk3.cell (p:=⟨wr.heap.size,0,none⟩) (v:=.int .i64 en.links[k].frm) (by go_simp);have x1:=hk3.cell (p:=⟨wr.heap.size,1,none⟩) (v:=.int .i64 en.links[k].to) (by go_simp);have x2:=hk3.cell (p:=⟨wr.heap.size,2,none⟩) (v:=.int .i64 en.links[k].since) (by go_simp);have hz3:=World.block_lt_of_cell? _ _ x0;have y0:(w3.alloc (.cells #[.int .i64 a.code,.int .i64 a.kind,.int .i64 a.basis,.int .i64 a.parent] 68)).cell? ⟨wr.heap.size,0,none⟩=some (.int .i64 en.links[k].frm):=(by go_simp);have y2:(w3.alloc (.cells #[.int .i64 a.code,.int .i64 a.kind,.int .i64 a.basis,.int .i64 a.parent] 68)).cell? ⟨wr.heap.size,2,none⟩=some (.int .i64 en.links[k].since):=(by go_simp);have ya:(w3.alloc (.cells #[.int .i64 a.code,.int .i64 a.kind,.int .i64 a.basis,.int .i64 a.parent] 68)).cell? ⟨w3.heap.size,1,none⟩=some (.int .i64 a.kind):=(by go_simp);have K3:=Lib.hid (((HW.out.alloc (.cells #[.int .i64 en.links[k].frm,.int .i64 en.links[k].to,.int .i64 en.links[k].since] 162)).trans hk3).alloc (.cells #[.int .i64 a.code,.int .i64 a.kind,.int .i64 a.basis,.int .i64 a.parent] 68));clear hk3))
        go_ret
        rw [HQ.out]
        exact ⟨rfl,((Keeps.refl w).alloc _).trans (K4.out.alloc _)⟩
       | true=>
        have hkd2:(a.kind != d.kind)=false:=by rw [bne,hkd];rfl
        rw [hkd] at hokl
        cases dv with
        | false=>
         have HQ:=Lib.hid (mvalidB_bad hlt (hokl.trans (by simp only [Bool.and_false,Bool.false_and,Bool.true_and,Bool.and_true])))
         clear hokl
         go_wp2_with (first | (go_at_call 94;refine (HD.out _).mono ?_;rintro e5 w5 ⟨rfl,rfl⟩) | (go_at_call 169;(with_reducible refine (HB.out _ (HC2.out.keeps (((Keeps.refl w).alloc _).trans K3.out))).mono ?_);rintro e4 w4 ⟨rfl,hk4⟩;have z0:=hk4.cell y0;have z2:=hk4.cell y2;have za:=hk4.cell ya;have hz4:=World.block_lt_of_cell? _ _ z0;have hz5:=World.block_lt_of_cell? _ _ za;have K4:=Lib.hid (K3.out.trans hk4);clear hk4 y0 y2 ya x0 x1 x2) | (go_at_call 169;(with_reducible refine (HA.out _ (HC.out.keeps (((Keeps.refl w).alloc _).trans (HW.out.alloc _)))).mono ?_);rintro e3 w3 ⟨rfl,hk3⟩;have x0:=hk3.cell (p:=⟨wr.heap.size,0,none⟩) (v:=.int .i64 en.links[k].frm) (by go_simp);have x1:=hk3.cell (p:=⟨wr.heap.size,1,none⟩) (v:=.int .i64 en.links[k].to) (by go_simp);have x2:=hk3.cell (p:=⟨wr.heap.size,2,none⟩) (v:=.int .i64 en.links[k].since) (by go_simp);have hz3:=World.block_lt_of_cell? _ _ x0;have y0:(w3.alloc (.cells #[.int .i64 a.code,.int .i64 a.kind,.int .i64 a.basis,.int .i64 a.parent] 68)).cell? ⟨wr.heap.size,0,none⟩=some (.int .i64 en.links[k].frm):=(by go_simp);have y2:(w3.alloc (.cells #[.int .i64 a.code,.int .i64 a.kind,.int .i64 a.basis,.int .i64 a.parent] 68)).cell? ⟨wr.heap.size,2,none⟩=some (.int .i64 en.links[k].since):=(by go_simp);have ya:(w3.alloc (.cells #[.int .i64 a.code,.int .i64 a.kind,.int .i64 a.basis,.int .i64 a.parent] 68)).cell? ⟨w3.heap.size,1,none⟩=some (.int .i64 a.kind):=(by go_simp);have K3:=Lib.hid (((HW.out.alloc (.cells #[.int .i64 en.links[k].frm,.int .i64 en.links[k].to,.int .i64 en.links[k].since] 162)).trans hk3).alloc (.cells #[.int .i64 a.code,.int .i64 a.kind,.int .i64 a.basis,.int .i64 a.parent] 68));clear hk3))
         go_ret
         rw [HQ.out]
         exact ⟨rfl,((Keeps.refl w).alloc _).trans (K4.out.alloc _)⟩
        | true=>
         simp only [Bool.and_true,Bool.and_false] at hokl
         have HOK:=Lib.hid hokl
         clear hokl hkd
         go_wp2_with (first | (go_at_call 94;refine (HD.out _).mono ?_;rintro e5 w5 ⟨rfl,rfl⟩) | (go_at_call 169;(with_reducible refine (HB.out _ (HC2.out.keeps (((Keeps.refl w).alloc _).trans K3.out))).mono ?_);rintro e4 w4 ⟨rfl,hk4⟩;have z0:=hk4.cell y0;have z2:=hk4.cell y2;have za:=hk4.cell ya;have hz4:=World.block_lt_of_cell? _ _ z0;have hz5:=World.block_lt_of_cell? _ _ za;have K4:=Lib.hid (K3.out.trans hk4);clear hk4 y0 y2 ya x0 x1 x2) | (go_at_call 169;(with_reducible refine (HA.out _ (HC.out.keeps (((Keeps.refl w).alloc _).trans (HW.out.alloc _)))).mono ?_);rintro e3 w3 ⟨rfl,hk3⟩;have x0:=hk3.cell (p:=⟨wr.heap.size,0,none⟩) (v:=.int .i64 en.links[k].frm) (by go_simp);have x1:=hk3.cell (p:=⟨wr.heap.size,1,none⟩) (v:=.int .i64 en.links[k].to) (by go_simp);have x2:=hk3.cell (p:=⟨wr.heap.size,2,none⟩) (v:=.int .i64 en.links[k].since) (by go_simp);have hz3:=World.block_lt_of_cell? _ _ x0;have y0:(w3.alloc (.cells #[.int .i64 a.code,.int .i64 a.kind,.int .i64 a.basis,.int .i64 a.parent] 68)).cell? ⟨wr.heap.size,0,none⟩=some (.int .i64 en.links[k].frm):=(by go_simp);have y2:(w3.alloc (.cells #[.int .i64 a.code,.int .i64 a.kind,.int .i64 a.basis,.int .i64 a.parent] 68)).cell? ⟨wr.heap.size,2,none⟩=some (.int .i64 en.links[k].since):=(by go_simp);have ya:(w3.alloc (.cells #[.int .i64 a.code,.int .i64 a.kind,.int .i64 a.basis,.int .i64 a.parent] 68)).cell? ⟨w3.heap.size,1,none⟩=some (.int .i64 a.kind):=(by go_simp);have K3:=Lib.hid (((HW.out.alloc (.cells #[.int .i64 en.links[k].frm,.int .i64 en.links[k].to,.int .i64 en.links[k].since] 162)).trans hk3).alloc (.cells #[.int .i64 a.code,.int .i64 a.kind,.int .i64 a.basis,.int .i64 a.parent] 68));clear hk3))
         clear hkd2
         have r0:(w4.alloc (.cells #[.int .i64 d.code,.int .i64 d.kind,.int .i64 d.basis,.int .i64 d.parent] 68)).cell? ⟨wr.heap.size,0,none⟩=some (.int .i64 en.links[k].frm):=(by go_simp)
         have r2:(w4.alloc (.cells #[.int .i64 d.code,.int .i64 d.kind,.int .i64 d.basis,.int .i64 d.parent] 68)).cell? ⟨wr.heap.size,2,none⟩=some (.int .i64 en.links[k].since):=(by go_simp)
         have K5:=Lib.hid (K4.out.alloc (.cells #[.int .i64 d.code,.int .i64 d.kind,.int .i64 d.basis,.int .i64 d.parent] 68))
         obtain ⟨wx,hwx⟩:∃ wx,w4.alloc (.cells #[.int .i64 d.code,.int .i64 d.kind,.int .i64 d.basis,.int .i64 d.parent] 68)=wx:=⟨_,rfl⟩
         rw [hwx] at r0 r2 K5 ⊢
         clear hwx z0 z2 za K4
         go_loopw [11] (fun vi wy=>∃ j:Nat,j≤k∧vi=.int .i64 j∧Hid (∀ i (hi:i < en.links.length),i < j→sameK en.links[i] en.links[k]=false)∧Hid (Keeps wx wy)) (fun vi _=>k - (intOf vi).toNat)
         case atStart=>exact ⟨0,Nat.zero_le _,rfl,Lib.hid (fun i _ h=>absurd h (Nat.not_lt_zero _)),Lib.hid (Keeps.refl wx)⟩
         case round=>
          obtain ⟨j,hj,rfl,HNI,HY⟩:=hrel
          by_cases hjk:j < k
          ·have HLy:=HL.out.keeps (((Keeps.refl w).alloc _).trans (K5.out.trans HY.out))
           have hiy:=Sl.at HLy Tryz.underlying104 Tryz.sizeOf162 j (by omega)
           have m0:=HLy.cell Lnk.len j (by omega) 0 _ rfl
           have m2:=HLy.cell Lnk.len j (by omega) 2 _ rfl
           simp only [Nat.add_zero] at m0
           have s0:=HY.out.cell r0
           have s2:=HY.out.cell r2
           have s3:=(K5.out.trans HY.out).cell (p:=⟨w.heap.size,3,none⟩) (v:=.slice aoL en.links.length capL) (by go_simp)
           have hsm:sameK (en.links[j]'(by omega)) en.links[k]=((en.links[j]'(by omega)).frm == en.links[k].frm && (en.links[j]'(by omega)).since == en.links[k].since):=rfl
           clear HLy r0 r2 d_2 d_3 l0 l1 l2 hix
           cases f1:((en.links[j]'(by omega)).frm == en.links[k].frm) with
           | false=>
            rw [f1,Bool.false_and] at hsm
            have HSM:=Lib.hid hsm
            clear hsm
            go_wp2_with fail
            go_quiet (fail)
            go_wp2_with fail
            go_roundw
            case rel=>exact ⟨j+1,by omega,by go_num,Lib.hid (fun i hi hij=>by
             rcases Nat.lt_succ_iff_lt_or_eq.1 hij with h | rfl
             ·exact HNI.out i hi h
             ·exact HSM.out),Lib.hid (HY.out.drewN _)⟩
            case measure=>simp [intOf];omega
           | true=>
            rw [f1,Bool.true_and] at hsm
            cases f2:((en.links[j]'(by omega)).since == en.links[k].since) with
            | false=>
             rw [f2] at hsm
             have HSM:=Lib.hid hsm
             clear hsm
             go_wp2_with fail
             go_quiet (fail)
             go_wp2_with fail
             go_roundw
             case rel=>exact ⟨j+1,by omega,by go_num,Lib.hid (fun i hi hij=>by
              rcases Nat.lt_succ_iff_lt_or_eq.1 hij with h | rfl
              ·exact HNI.out i hi h
              ·exact HSM.out),Lib.hid (HY.out.drewN _)⟩
             case measure=>simp [intOf];omega
            | true=>
             rw [f2] at hsm
             have HQ:=Lib.hid (mvalidB_bad hlt (HOK.out.trans (by rw [any_take_yes hlt hjk hsm];rfl)))
             clear hsm
             go_wp2_with fail
             go_quiet (fail)
             go_wp2
             go_ret
             rw [HQ.out]
             exact ⟨rfl,((Keeps.refl w).alloc _).trans (K5.out.trans (HY.out.drewN _))⟩
          ·obtain rfl:j=k:=by omega
           have HOK2:=Lib.hid (HOK.out.trans (by rw [any_take_no hlt HNI.out]))
           go_wp2_with fail
           go_roundw
           case rel=>exact ⟨j+1,by omega,by go_num,Lib.hid (fun i hi=>by
            rcases Nat.lt_succ_iff_lt_or_eq.1 hi with h | rfl
            ·exact HN.out i h
            ·exact HOK2.out),Lib.hid (K5.out.trans HY.out)⟩
           case measure=>simp [intOf];omega
    ·obtain rfl:k=en.links.length:=by omega
     have HQ:=Lib.hid (mvalidB_good H1.out H2.out hl HN.out)
     go_wp2_with fail
     go_ret
     rw [HQ.out]
     exact ⟨rfl,((Keeps.refl w).alloc _).trans HW.out⟩
end Go.Proofs.YtoaidbhiciaeaaaGreat

end
section
namespace Go.Proofs.YtoaidbhiciaeaaaGreat
open Go.RowKit
set_option maxRecDepth 100000 in
theorem mvalid_any (en:Ent) (v:Value) (c:List Acc) (ao:Option Addr) (cap b o:Nat) (w:World) (HE:EntV w v en) (H2:Accs w ao c cap b o) (hc:c.length≤200) (hx:en.chart.length≤200) (hl:en.links.length≤400)
  (hok:∀ x∈c,I64 x.code∧I64 x.parent) (hok2:∀ x∈en.chart,I64 x.code∧I64 x.parent) (hok3:∀ x∈en.links,I64 x.frm∧I64 x.to∧I64 x.since) :
  Calls Tryz.prog 105 #[v,.slice ao c.length cap] w fun e w'=>e=.returned (.bool (mvalidB en c))∧Keeps w w':=by
 obtain ⟨cv,lv,rfl,⟨aoC,capC,bC,oC,rfl,HC⟩,⟨aoL,capL,bL,oL,rfl,HL⟩⟩:=HE
 have hleL:=Sl.le HL
 have hcapL:=Sl.cap HL
 have HC:=Lib.hid HC
 have HL:=Lib.hid HL
 have HC2:=Lib.hid H2
 have HO3:=Lib.hid hok3
 have hmm:=@run_makeMap Tryz.prog
 have HV1:Hid (∀ W,Accs W ao c cap b o→Calls Tryz.prog 98 #[.slice ao c.length cap,.bool true] W fun e w'=>e=.returned (.bool (validRB c true))∧Keeps W w'):=Lib.hid (fun W h=>by have:=valid_any c true ao cap b o W h hc hok;rw [valid_eq] at this;exact this)
 have HV2:Hid (∀ W,Accs W aoC en.chart capC bC oC→Calls Tryz.prog 98 #[.slice aoC en.chart.length capC,.bool false] W fun e w'=>e=.returned (.bool (validRB en.chart false))∧Keeps W w'):=Lib.hid (fun W h=>by have:=valid_any en.chart false aoC capC bC oC W h hx hok2;rw [valid_eq] at this;exact this)
 clear H2 hok hok2 hok3
 cases h1:validRB c true with
 | false=>
  have HF:=Lib.hid (mvalidB_1 (en:=en) h1)
  rw [h1] at HV1
  clear h1
  go_enter Tryz.func105,Tryz.ntmps105
  go_wp2_with (go_at_call 98;(with_reducible refine (HV1.out _ (HC2.out.keeps ((Keeps.refl w).alloc _))).mono ?_);rintro e1 w1 ⟨rfl,hk1⟩;have K1:=Lib.hid hk1;have b_0:=hk1.cell (p:=⟨w.heap.size,0,none⟩) (v:=.string en.name) (by go_simp);have b_1:=hk1.cell (p:=⟨w.heap.size,1,none⟩) (v:=.string en.cur) (by go_simp);have b_2:=hk1.cell (p:=⟨w.heap.size,2,none⟩) (v:=.slice aoC en.chart.length capC) (by go_simp);have b_3:=hk1.cell (p:=⟨w.heap.size,3,none⟩) (v:=.slice aoL en.links.length capL) (by go_simp);have b_4:=hk1.cell (p:=⟨w.heap.size,4,none⟩) (v:=.bool en.joint) (by go_simp);have hz1:=World.block_lt_of_cell? _ _ b_0;clear hk1)
  go_ret
  rw [HF.out]
  exact ⟨rfl,((Keeps.refl w).alloc _).trans K1.out⟩
 | true=>
  rw [h1] at HV1
  have H1:=Lib.hid h1
  clear h1
  cases h2:validRB en.chart false with
  | false=>
   have HF:=Lib.hid (mvalidB_2 (c:=c) h2)
   rw [h2] at HV2
   clear h2
   go_enter Tryz.func105,Tryz.ntmps105
   go_wp2_with (first | (go_at_call 98;(with_reducible refine (HV2.out _ (HC.out.keeps (((Keeps.refl w).alloc _).trans K1.out))).mono ?_);rintro e2 w2 ⟨rfl,hk2⟩;have c_3:=hk2.cell b_3;have hz2:=World.block_lt_of_cell? _ _ c_3;have K2:=Lib.hid (K1.out.trans hk2);clear hk2 b_0 b_1 b_2 b_3 b_4) | (go_at_call 98;(with_reducible refine (HV1.out _ (HC2.out.keeps ((Keeps.refl w).alloc _))).mono ?_);rintro e1 w1 ⟨rfl,hk1⟩;have K1:=Lib.hid hk1;have b_0:=hk1.cell (p:=⟨w.heap.size,0,none⟩) (v:=.string en.name) (by go_simp);have b_1:=hk1.cell (p:=⟨w.heap.size,1,none⟩) (v:=.string en.cur) (by go_simp);have b_2:=hk1.cell (p:=⟨w.heap.size,2,none⟩) (v:=.slice aoC en.chart.length capC) (by go_simp);have b_3:=hk1.cell (p:=⟨w.heap.size,3,none⟩) (v:=.slice aoL en.links.length capL) (by go_simp);have b_4:=hk1.cell (p:=⟨w.heap.size,4,none⟩) (v:=.bool en.joint) (by go_simp);have hz1:=World.block_lt_of_cell? _ _ b_0;clear hk1))
   go_ret
   rw [HF.out]
   exact ⟨rfl,((Keeps.refl w).alloc _).trans K2.out⟩
  | true=>
   rw [h2] at HV2
   have H2:=Lib.hid h2
   clear h2
   go_enter Tryz.func105,Tryz.ntmps105
   go_wp2_with (first | (go_at_call 98;(with_reducible refine (HV2.out _ (HC.out.keeps (((Keeps.refl w).alloc _).trans K1.out))).mono ?_);rintro e2 w2 ⟨rfl,hk2⟩;have c_3:=hk2.cell b_3;have hz2:=World.block_lt_of_cell? _ _ c_3;have K2:=Lib.hid (K1.out.trans hk2);clear hk2 b_0 b_1 b_2 b_3 b_4) | (go_at_call 98;(with_reducible refine (HV1.out _ (HC2.out.keeps ((Keeps.refl w).alloc _))).mono ?_);rintro e1 w1 ⟨rfl,hk1⟩;have K1:=Lib.hid hk1;have b_0:=hk1.cell (p:=⟨w.heap.size,0,none⟩) (v:=.string en.name) (by go_simp);have b_1:=hk1.cell (p:=⟨w.heap.size,1,none⟩) (v:=.string en.cur) (by go_simp);have b_2:=hk1.cell (p:=⟨w.heap.size,2,none⟩) (v:=.slice aoC en.chart.length capC) (by go_simp);have b_3:=hk1.cell (p:=⟨w.heap.size,3,none⟩) (v:=.slice aoL en.links.length capL) (by go_simp);have b_4:=hk1.cell (p:=⟨w.heap.size,4,none⟩) (v:=.bool en.joint) (by go_simp);have hz1:=World.block_lt_of_cell? _ _ b_0;clear hk1))
   go_loopw [28] (fun vi wr=>∃ k:Nat,k≤en.links.length∧vi=.int .i64 k∧Hid (∀ j < k,okL en.chart c en.links j=true)∧Hid (Keeps (w.alloc (.cells #[.string en.name,.string en.cur,.slice aoC en.chart.length capC,.slice aoL en.links.length capL,.bool en.joint] 106)) wr∧VMap linkK wr w2.heap.size k (seenL (en.links.take k)))) (fun vi _=>en.links.length - (intOf vi).toNat)
   case atStart=>exact ⟨0,Nat.zero_le _,rfl,Lib.hid (fun j hj=>absurd hj (Nat.not_lt_zero _)),Lib.hid ⟨K2.out.alloc _,by rw [List.take_zero,seenL_nil];exact VMap.made linkK w2⟩⟩
   case round=>
    obtain ⟨k,hk,rfl,HN,HW⟩:=hrel
    by_cases hlt:k < en.links.length
    ·have KW:=HW.out.1
     have HLr:=HL.out.keeps (((Keeps.refl w).alloc _).trans KW)
     have hix:=Sl.at HLr Tryz.underlying104 Tryz.sizeOf162 k hlt
     have l0:=HLr.cell Lnk.len k hlt 0 _ rfl
     have l1:=HLr.cell Lnk.len k hlt 1 _ rfl
     have l2:=HLr.cell Lnk.len k hlt 2 _ rfl
     simp only [Nat.add_zero] at l0
     have d_0:=KW.cell (p:=⟨w.heap.size,0,none⟩) (v:=.string en.name) (by go_simp);have d_1:=KW.cell (p:=⟨w.heap.size,1,none⟩) (v:=.string en.cur) (by go_simp);have d_2:=KW.cell (p:=⟨w.heap.size,2,none⟩) (v:=.slice aoC en.chart.length capC) (by go_simp);have d_3:=KW.cell (p:=⟨w.heap.size,3,none⟩) (v:=.slice aoL en.links.length capL) (by go_simp);have d_4:=KW.cell (p:=⟨w.heap.size,4,none⟩) (v:=.bool en.joint) (by go_simp)
     have hzr:=World.block_lt_of_cell? _ _ d_0
     have hol:=HO3.out _ (List.getElem_mem hlt)
     have hokl:=okL_at (x:=en.chart) (c:=c) hlt
     have hkok:linkK.ok (keyL en.links[k]):=⟨hol.1,(show I64 0 from ⟨by decide,by decide⟩),hol.2.2⟩
     have HM:Hid (VMap linkK ((wr.alloc (.cells #[.int .i64 en.links[k].frm,.int .i64 en.links[k].to,.int .i64 en.links[k].since] 162)).alloc (.cells #[.int .i64 en.links[k].frm,.int .i64 0,.int .i64 en.links[k].since] 162)) w2.heap.size k (seenL (en.links.take k))):=Lib.hid ((HW.out.2.alloc _).alloc _)
     have hlk:(Instr.lookup 205 (.map (some w2.heap.size)) (.agg #[.int .i64 en.links[k].frm,.int .i64 0,.int .i64 en.links[k].since]) false).run Tryz.prog ((wr.alloc (.cells #[.int .i64 en.links[k].frm,.int .i64 en.links[k].to,.int .i64 en.links[k].since] 162)).alloc (.cells #[.int .i64 en.links[k].frm,.int .i64 0,.int .i64 en.links[k].since] 162))=.ok (.bool ((en.links.take k).any (fun a=>sameK a en.links[k]))) ((wr.alloc (.cells #[.int .i64 en.links[k].frm,.int .i64 en.links[k].to,.int .i64 en.links[k].since] 162)).alloc (.cells #[.int .i64 en.links[k].frm,.int .i64 0,.int .i64 en.links[k].since] 162)):=by
      have:=HM.out.look Tryz.underlying205 (fun w=>Tryz.zeroValue4 w) hkok _ rfl
      rw [seenL_get] at this
      exact this
     clear KW HLr hol
     cases hs:(en.links.take k).any (fun a=>sameK a en.links[k]) with
     | true=>
      rw [hs] at hlk hokl
      have HB:=Lib.hid (mvalidB_bad hlt hokl)
      clear hs hokl
      go_wp2_with fail
      go_ret
      rw [HB.out]
      exact ⟨rfl,((Keeps.refl w).alloc _).trans ((HW.out.1.alloc _).alloc _)⟩
     | false=>
      rw [hs] at hlk hokl
      have HLK:Hid (∀ W,Accs W aoC en.chart capC bC oC→Accs W ao c cap b o→Calls Tryz.prog 147 #[.agg #[.string en.name,.string en.cur,.slice aoC en.chart.length capC,.slice aoL en.links.length capL,.bool en.joint],.slice ao c.length cap,.agg #[.int .i64 en.links[k].frm,.int .i64 en.links[k].to,.int .i64 en.links[k].since]] W fun e w'=>e=.returned (.bool (linkB en.chart c en.links[k]))∧Keeps W w'):=Lib.hid (fun W h h'=>link_any en.name en.cur en.joint en.chart c en.links[k] _ aoC capC bC oC ao cap b o W h h')
      clear hs
      cases hlb:linkB en.chart c en.links[k] with
      | false=>
       rw [hlb] at hokl HLK
       have HB:=Lib.hid (mvalidB_bad hlt hokl)
       clear hokl hlb
       go_wp2_with (go_at_call 147;(with_reducible refine (HLK.out _ (HC.out.keeps (((Keeps.refl w).alloc _).trans ((HW.out.1.alloc _).alloc _))) (HC2.out.keeps (((Keeps.refl w).alloc _).trans ((HW.out.1.alloc _).alloc _)))).mono ?_);rintro e3 w3 ⟨rfl,hk3⟩;have K3:=Lib.hid hk3;clear hk3)
       go_ret
       rw [HB.out]
       exact ⟨rfl,((Keeps.refl w).alloc _).trans (((HW.out.1.alloc _).alloc _).trans K3.out)⟩
      | true=>
       rw [hlb] at hokl HLK
       have HOK:=Lib.hid hokl
       clear hokl hlb
       have hml:=HM.out.lt
       go_wp2_with (first | (go_at_call 147;(with_reducible refine (HLK.out _ (HC.out.keeps (((Keeps.refl w).alloc _).trans ((HW.out.1.alloc _).alloc _))) (HC2.out.keeps (((Keeps.refl w).alloc _).trans ((HW.out.1.alloc _).alloc _)))).mono ?_);rintro e3 w3 ⟨rfl,hk3⟩;have x0:=hk3.cell (p:=⟨wr.heap.size+1,0,none⟩) (v:=.int .i64 en.links[k].frm) (by go_simp);have x1:=hk3.cell (p:=⟨wr.heap.size+1,1,none⟩) (v:=.int .i64 0) (by go_simp);have x2:=hk3.cell (p:=⟨wr.heap.size+1,2,none⟩) (v:=.int .i64 en.links[k].since) (by go_simp);have K3:=Lib.hid hk3;have HM3:=Lib.hid (HM.out.keeps hk3);clear hk3) | (refine wpList_vstore (K:=linkK) rfl _ _ _ 205 rfl Tryz.underlying205 w2.heap.size k rfl HM3.out (by unfold maxLen;omega) (keyL en.links[k]) hkok rfl (.bool true) rfl (seenL (en.links.take (k+1))) (by rw [take_snoc _ _ hlt];exact (seenL_snoc _ _).1) (fun d _ hd=>by rw [take_snoc _ _ hlt];exact (seenL_snoc _ _).2 d hd) ?_;intro w4 hm4 hg4;have HX:Hid (Keeps (w.alloc (.cells #[.string en.name,.string en.cur,.slice aoC en.chart.length capC,.slice aoL en.links.length capL,.bool en.joint] 106)) w4∧VMap linkK w4 w2.heap.size (k+1) (seenL (en.links.take (k+1)))):=Lib.hid ⟨Below.grown (((HW.out.1.alloc _).alloc _).trans K3.out) hg4 (((HW.out.1.alloc _).alloc _).trans K3.out).size (fun j hj=>by cases hj;exact K2.out.size),hm4⟩;clear hm4 hg4))
       go_roundw
       case rel=>exact ⟨k+1,by omega,by go_num,Lib.hid (fun j hj=>by
        rcases Nat.lt_succ_iff_lt_or_eq.1 hj with h | rfl
        ·exact HN.out j h
        ·exact HOK.out),HX⟩
       case measure=>simp [intOf];omega
    ·obtain rfl:k=en.links.length:=by omega
     have HB:=Lib.hid (mvalidB_good H1.out H2.out hl HN.out)
     go_wp2_with fail
     go_ret
     rw [HB.out]
     exact ⟨rfl,((Keeps.refl w).alloc _).trans HW.out.1⟩
end Go.Proofs.YtoaidbhiciaeaaaGreat

end
