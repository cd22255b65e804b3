/- Walks and plain facts that the claim rests on (ProperPW). No condition. -/
import Derived.Test.YtoaidbhiciaeaaaGreatPo10
set_option linter.unusedSimpArgs false
set_option linter.unusedVariables false
set_option maxHeartbeats 16000000
section
namespace Go.Proofs.YtoaidbhiciaeaaaGreat
open Go.RowKit
theorem pathP_mono {l:List Acc}:∀ (n:Nat) (out:List Int) (c x:Int),x∈out→x∈pathP l n out c
 | 0,_,_,_,h=>h
 | n+1,out,c,x,h=>by
  simp only [pathP]
  split
  ·exact h
  ·split
   ·exact h
   ·exact pathP_mono n _ _ x (by simp [h])
theorem climbP_ne {l:List Acc} {c:Int} {a:Acc} (h:findA l c=some a):∃ m,(climbP l c).length=m+1:=by
 unfold climbP
 have hm:c∈pathP l (l.length+1) [] c:=by
  rw [pathP_next h (by simp)]
  exact pathP_mono _ _ _ _ (by simp)
 exact ⟨_,(Nat.succ_pred_eq_of_pos (List.length_pos_of_mem hm)).symm⟩
theorem pathP_found {l:List Acc}:∀ (n:Nat) (out:List Int) (c:Int),(∀ x∈out,(findA l x).isSome=true)→∀ x∈pathP l n out c,(findA l x).isSome=true
 | 0,_,_,h,x,hx=>h x hx
 | n+1,out,c,h,x,hx=>by
  simp only [pathP] at hx
  split at hx
  ·exact h x hx
  ·rename_i a ha
   split at hx
   ·exact h x hx
   ·refine pathP_found n _ _ ?_ x hx
    intro y hy
    rcases List.mem_append.1 hy with hy | hy
    ·exact h y hy
    ·simp only [List.mem_singleton] at hy;subst hy;rw [ha];rfl
theorem topB_at {l:List Acc} {c:Int} {m:Nat} (hm:(climbP l c).length=m+1):∃ t,findA l ((climbP l c)[m]'(by omega))=some t∧topB l c=(t.parent == 0):=by
 have hf:=pathP_found (l:=l) (l.length+1) [] c (by simp) ((climbP l c)[m]'(by omega)) (List.getElem_mem _)
 obtain ⟨t,ht⟩:=Option.isSome_iff_exists.1 hf
 refine ⟨t,ht,?_⟩
 have:(climbP l c).getLast?.getD 0=(climbP l c)[m]'(by omega):=by
  rw [List.getLast?_eq_getElem?,List.getElem?_eq_getElem (by omega)]
  simp [hm]
 unfold topB
 rw [this,ht]
set_option maxRecDepth 100000 in
theorem proper_bad (l:List Acc) (a:Acc) (group:Bool) (v:Value) (w:World) (hb:basicB a group=false) :
  Calls Tryz.prog 144 #[v,.agg #[.int .i64 a.code,.int .i64 a.kind,.int .i64 a.basis,.int .i64 a.parent],.bool group] w fun e w'=>e=.returned (.bool false)∧Keeps w w':=by
 by_cases h1:1≤a.code∧a.code≤99999∧1≤a.kind∧a.kind≤5
 ·obtain ⟨h1,h2,h3,h4⟩:=h1
  cases group with
  | true=>
   have h5:a.basis < 1∨3 < a.basis:=by
    simp [basicB,h1,h2,h3,h4] at hb;omega
   clear hb
   rcases h5 with h5 | h5
   ·go_enter Tryz.func144,Tryz.ntmps144
    go_wp2
    go_ret
    exact ⟨rfl,(Keeps.refl w).alloc _⟩
   ·go_enter Tryz.func144,Tryz.ntmps144
    go_wp2
    go_ret
    exact ⟨rfl,(Keeps.refl w).alloc _⟩
  | false=>
   have h5:a.basis≠0:=by
    simp [basicB,h1,h2,h3,h4] at hb;exact hb
   have e5:(a.basis != 0)=true:=by simpa using h5
   clear hb h5
   go_enter Tryz.func144,Tryz.ntmps144
   go_wp2
   go_ret
   exact ⟨rfl,(Keeps.refl w).alloc _⟩
 ·clear hb
  go_enter Tryz.func144,Tryz.ntmps144
  by_cases g1:a.code < 1
  ·go_wp2
   go_ret
   exact ⟨rfl,(Keeps.refl w).alloc _⟩
  ·by_cases g2:99999 < a.code
   ·go_wp2
    go_ret
    exact ⟨rfl,(Keeps.refl w).alloc _⟩
   ·by_cases g3:a.kind < 1
    ·go_wp2
     go_ret
     exact ⟨rfl,(Keeps.refl w).alloc _⟩
    ·have g4:5 < a.kind:=by omega
     clear h1
     go_wp2
     go_ret
     exact ⟨rfl,(Keeps.refl w).alloc _⟩
theorem climb_facts (l:List Acc) (c:Int) (ao:Option Addr) (cap b o:Nat) (hl:l.length≤1000) (h64:I64 c) (hok:∀ x∈l,I64 x.parent) (hin:(findA l c).isSome=true) :
  ∃ (m:Nat) (z:Int) (t:Acc),findA l z=some t∧topB l c=(t.parent == 0)∧∀ W,Accs W ao l cap b o→Calls Tryz.prog 172 #[.slice ao l.length cap,.int .i64 c] W fun e w'=>∃ ao2 cap2 b2 o2,e=.returned (.slice ao2 (m+1) cap2)∧m+1≤cap2∧cap2≤9223372036854775807∧(∀ w'',(Instr.indexAt 69 (.slice ao2 (m+1) cap2) (.int .i64 (m:Int))).run Tryz.prog w''=.ok (.pointer (some ⟨b2,o2+m,none⟩)) w'')∧w'.cell? ⟨b2,o2+m,none⟩=some (.int .i64 z)∧Keeps W w':=by
 obtain ⟨a0,ha0⟩:=Option.isSome_iff_exists.1 hin
 obtain ⟨m,hm⟩:=climbP_ne ha0
 obtain ⟨tt,ht,htop⟩:=topB_at hm
 refine ⟨m,_,tt,ht,htop,fun W H=>(climb_any l c ao cap b o W H hl h64 hok).mono ?_⟩
 rintro e w' ⟨v2,rfl,⟨ao2,cap2,b2,o2,rfl,hs2⟩,hk2⟩
 have hix:=hs2.at1 Tryz.underlying69 Tryz.sizeOf3 m (by omega)
 have c2:=hs2.int m (by omega)
 have hle:=hs2.le
 have hcap:=hs2.cap
 rw [hm] at hix hle
 exact ⟨ao2,cap2,b2,o2,by rw [hm],hle,hcap,hix,c2,hk2⟩
set_option maxRecDepth 100000 in
theorem proper_any (l:List Acc) (a:Acc) (group:Bool) (ao:Option Addr) (cap b o:Nat) (w:World) (H:Accs w ao l cap b o) (hl:l.length≤1000) (h64:I64 a.code) (hok:∀ x∈l,I64 x.parent) (hin:(findA l a.code).isSome=true) :
  Calls Tryz.prog 144 #[.slice ao l.length cap,.agg #[.int .i64 a.code,.int .i64 a.kind,.int .i64 a.basis,.int .i64 a.parent],.bool group] w fun e w'=>e=.returned (.bool (properPB l a group))∧Keeps w w':=by
 have HO:=Lib.hid hok
 clear hok
 cases hb:basicB a group with
 | false=>simp only [properPB,hb,Bool.false_and];exact proper_bad l a group _ w hb
 | true=>
  simp only [properPB,hb,Bool.true_and]
  simp only [basicB,Bool.and_eq_true,decide_eq_true_eq] at hb
  obtain ⟨⟨⟨⟨h1,h2⟩,h3⟩,h4⟩,h5⟩:=hb
  by_cases hp:a.parent=0
  ·have ep:(a.parent == 0)=true:=by simp [hp]
   rw [ep,Bool.true_or]
   clear ep hin
   cases group with
   | true=>
    simp only [if_true,Bool.and_eq_true,decide_eq_true_eq] at h5
    obtain ⟨h5,h6⟩:=h5
    go_enter Tryz.func144,Tryz.ntmps144
    go_wp2
    go_ret
    exact ⟨rfl,(Keeps.refl w).alloc _⟩
   | false=>
    simp only [Bool.false_eq_true,if_false,decide_eq_true_eq] at h5
    go_enter Tryz.func144,Tryz.ntmps144
    go_wp2
    go_ret
    exact ⟨rfl,(Keeps.refl w).alloc _⟩
  ·have ep:(a.parent == 0)=false:=by simpa using hp
   rw [ep,Bool.false_or]
   cases hf:findA l a.parent with
   | none=>
    have er:aboveB l a=false:=by unfold aboveB;rw [hf]
    rw [er,Bool.false_and]
    clear hin
    cases group with
    | true=>
     simp only [if_true,Bool.and_eq_true,decide_eq_true_eq] at h5
     obtain ⟨h5,h6⟩:=h5
     go_enter Tryz.func144,Tryz.ntmps144
     go_wp2_with (go_at_call 103;refine (pfind_none l a.parent ao cap b o _ (H.keeps ((Keeps.refl w).alloc _)) hf).mono ?_;rintro e1 w1 ⟨rfl,hk⟩;have d0:=hk.cell (p:=⟨w.heap.size,0,none⟩) (v:=.int .i64 a.code) (by go_simp);have d1:=hk.cell (p:=⟨w.heap.size,1,none⟩) (v:=.int .i64 a.kind) (by go_simp);have hz:=World.block_lt_of_cell? _ _ d0;have K:=Lib.hid (((Keeps.refl w).alloc _).trans hk);clear hk)
     go_ret
     exact ⟨rfl,K.out.alloc _⟩
    | false=>
     simp only [Bool.false_eq_true,if_false,decide_eq_true_eq] at h5
     go_enter Tryz.func144,Tryz.ntmps144
     go_wp2_with (go_at_call 103;refine (pfind_none l a.parent ao cap b o _ (H.keeps ((Keeps.refl w).alloc _)) hf).mono ?_;rintro e1 w1 ⟨rfl,hk⟩;have d0:=hk.cell (p:=⟨w.heap.size,0,none⟩) (v:=.int .i64 a.code) (by go_simp);have d1:=hk.cell (p:=⟨w.heap.size,1,none⟩) (v:=.int .i64 a.kind) (by go_simp);have hz:=World.block_lt_of_cell? _ _ d0;have K:=Lib.hid (((Keeps.refl w).alloc _).trans hk);clear hk)
     go_ret
     exact ⟨rfl,K.out.alloc _⟩
   | some p=>
    have er:aboveB l a=(p.code != a.code && p.kind == a.kind):=by unfold aboveB;rw [hf]
    rw [er]
    clear er
    cases g1:(p.code == a.code) with
    | true=>
     rw [show (p.code != a.code)=false from by simpa using g1,Bool.false_and,Bool.false_and]
     clear hin
     cases group with
     | true=>
      simp only [if_true,Bool.and_eq_true,decide_eq_true_eq] at h5
      obtain ⟨h5,h6⟩:=h5
      go_enter Tryz.func144,Tryz.ntmps144
      go_wp2_with (go_at_call 103;refine (pfind_some l a.parent p ao cap b o _ (H.keeps ((Keeps.refl w).alloc _)) hf).mono ?_;rintro e1 w1 ⟨rfl,hk⟩;have d0:=hk.cell (p:=⟨w.heap.size,0,none⟩) (v:=.int .i64 a.code) (by go_simp);have d1:=hk.cell (p:=⟨w.heap.size,1,none⟩) (v:=.int .i64 a.kind) (by go_simp);have hz:=World.block_lt_of_cell? _ _ d0;have K:=Lib.hid (((Keeps.refl w).alloc _).trans hk);clear hk)
      go_ret
      exact ⟨rfl,K.out.alloc _⟩
     | false=>
      simp only [Bool.false_eq_true,if_false,decide_eq_true_eq] at h5
      go_enter Tryz.func144,Tryz.ntmps144
      go_wp2_with (go_at_call 103;refine (pfind_some l a.parent p ao cap b o _ (H.keeps ((Keeps.refl w).alloc _)) hf).mono ?_;rintro e1 w1 ⟨rfl,hk⟩;have d0:=hk.cell (p:=⟨w.heap.size,0,none⟩) (v:=.int .i64 a.code) (by go_simp);have d1:=hk.cell (p:=⟨w.heap.size,1,none⟩) (v:=.int .i64 a.kind) (by go_simp);have hz:=World.block_lt_of_cell? _ _ d0;have K:=Lib.hid (((Keeps.refl w).alloc _).trans hk);clear hk)
      go_ret
      exact ⟨rfl,K.out.alloc _⟩
    | false=>
     rw [show (p.code != a.code)=true from by simpa using g1,Bool.true_and]
     cases g2:(p.kind == a.kind) with
     | false=>
      rw [Bool.false_and]
      have g3:(p.kind != a.kind)=true:=by simpa using g2
      clear hin
      cases group with
      | true=>
       simp only [if_true,Bool.and_eq_true,decide_eq_true_eq] at h5
       obtain ⟨h5,h6⟩:=h5
       go_enter Tryz.func144,Tryz.ntmps144
       go_wp2_with (go_at_call 103;refine (pfind_some l a.parent p ao cap b o _ (H.keeps ((Keeps.refl w).alloc _)) hf).mono ?_;rintro e1 w1 ⟨rfl,hk⟩;have d0:=hk.cell (p:=⟨w.heap.size,0,none⟩) (v:=.int .i64 a.code) (by go_simp);have d1:=hk.cell (p:=⟨w.heap.size,1,none⟩) (v:=.int .i64 a.kind) (by go_simp);have hz:=World.block_lt_of_cell? _ _ d0;have K:=Lib.hid (((Keeps.refl w).alloc _).trans hk);clear hk)
       go_ret
       exact ⟨rfl,K.out.alloc _⟩
      | false=>
       simp only [Bool.false_eq_true,if_false,decide_eq_true_eq] at h5
       go_enter Tryz.func144,Tryz.ntmps144
       go_wp2_with (go_at_call 103;refine (pfind_some l a.parent p ao cap b o _ (H.keeps ((Keeps.refl w).alloc _)) hf).mono ?_;rintro e1 w1 ⟨rfl,hk⟩;have d0:=hk.cell (p:=⟨w.heap.size,0,none⟩) (v:=.int .i64 a.code) (by go_simp);have d1:=hk.cell (p:=⟨w.heap.size,1,none⟩) (v:=.int .i64 a.kind) (by go_simp);have hz:=World.block_lt_of_cell? _ _ d0;have K:=Lib.hid (((Keeps.refl w).alloc _).trans hk);clear hk)
       go_ret
       exact ⟨rfl,K.out.alloc _⟩
     | true=>
      rw [Bool.true_and]
      have g3:(p.kind != a.kind)=false:=by simpa using g2
      obtain ⟨m,z,tt,ht,htop,hC⟩:=climb_facts l a.code ao cap b o hl h64 HO.out hin
      rw [htop]
      have HT:=Lib.hid ht
      have HC:=Lib.hid hC
      clear hin ht htop hC
      cases group with
      | true=>
       simp only [if_true,Bool.and_eq_true,decide_eq_true_eq] at h5
       obtain ⟨h5,h6⟩:=h5
       go_enter Tryz.func144,Tryz.ntmps144
       go_wp2_with (first | (go_at_call 103;refine (pfind_some l z tt ao cap b o _ (H.keeps K2.out) HT.out).mono ?_;rintro e3 w3 ⟨rfl,hk3⟩;have K3:=Lib.hid (K2.out.trans hk3);clear hk3) | (go_at_call 172;refine (HC.out _ (H.keeps (K.out.alloc _))).mono ?_;rintro e2 w2 ⟨ao2,cap2,b2,o2,rfl,hle2,hcap2,hix2,c2,hk2⟩;have hbl2:=World.block_lt_of_cell? _ _ c2;have K2:=Lib.hid ((K.out.alloc (.cells #[.int .i64 p.code,.int .i64 p.kind,.int .i64 p.basis,.int .i64 p.parent] 68)).trans hk2);clear hk2) | (go_at_call 103;refine (pfind_some l a.parent p ao cap b o _ (H.keeps ((Keeps.refl w).alloc _)) hf).mono ?_;rintro e1 w1 ⟨rfl,hk⟩;have d0:=hk.cell (p:=⟨w.heap.size,0,none⟩) (v:=.int .i64 a.code) (by go_simp);have d1:=hk.cell (p:=⟨w.heap.size,1,none⟩) (v:=.int .i64 a.kind) (by go_simp);have hz:=World.block_lt_of_cell? _ _ d0;have K:=Lib.hid (((Keeps.refl w).alloc _).trans hk);clear hk))
       go_ret
       exact ⟨rfl,K3.out.alloc _⟩
      | false=>
       simp only [Bool.false_eq_true,if_false,decide_eq_true_eq] at h5
       go_enter Tryz.func144,Tryz.ntmps144
       go_wp2_with (first | (go_at_call 103;refine (pfind_some l z tt ao cap b o _ (H.keeps K2.out) HT.out).mono ?_;rintro e3 w3 ⟨rfl,hk3⟩;have K3:=Lib.hid (K2.out.trans hk3);clear hk3) | (go_at_call 172;refine (HC.out _ (H.keeps (K.out.alloc _))).mono ?_;rintro e2 w2 ⟨ao2,cap2,b2,o2,rfl,hle2,hcap2,hix2,c2,hk2⟩;have hbl2:=World.block_lt_of_cell? _ _ c2;have K2:=Lib.hid ((K.out.alloc (.cells #[.int .i64 p.code,.int .i64 p.kind,.int .i64 p.basis,.int .i64 p.parent] 68)).trans hk2);clear hk2) | (go_at_call 103;refine (pfind_some l a.parent p ao cap b o _ (H.keeps ((Keeps.refl w).alloc _)) hf).mono ?_;rintro e1 w1 ⟨rfl,hk⟩;have d0:=hk.cell (p:=⟨w.heap.size,0,none⟩) (v:=.int .i64 a.code) (by go_simp);have d1:=hk.cell (p:=⟨w.heap.size,1,none⟩) (v:=.int .i64 a.kind) (by go_simp);have hz:=World.block_lt_of_cell? _ _ d0;have K:=Lib.hid (((Keeps.refl w).alloc _).trans hk);clear hk))
       go_ret
       exact ⟨rfl,K3.out.alloc _⟩
end Go.Proofs.YtoaidbhiciaeaaaGreat

end
