/- Walks and plain facts that the claim rests on (Exw, Awk, LawICf). No condition. -/
import Derived.Test.YtoaidbhiciaeaaaGreatPo45
import Derived.Test.YtoaidbhiciaeaaaGreatPo44
import Derived.Test.YtoaidbhiciaeaaaGreatUn0
set_option linter.unusedSimpArgs false
set_option linter.unusedVariables false
set_option maxHeartbeats 16000000
section
namespace Go.Proofs.YtoaidbhiciaeaaaGreat
open Go.RowKit
theorem rowB_there {W:World} {B:Nat} {t:TypeId} {vs:List Value} (h:RowB W B t vs):W.there B 0 vs.length:=fun j hj=>by
 rw [Nat.zero_add]
 exact ⟨by rw [h.cell j vs[j] (List.getElem?_eq_getElem hj)];rfl,h.frozen j⟩
theorem x1S_ok:x1S.Ok:=by
 unfold Jrn.Ok x1S I64
 refine ⟨by dsimp only;omega,by dsimp only;omega,by dsimp only;omega,by dsimp only;omega,by dsimp only;omega,fun l hl=>?_⟩
 simp only [List.mem_cons,List.not_mem_nil,or_false] at hl
 subst hl;unfold Ln.Ok I64;dsimp only;omega
theorem x2S_ok:x2S.Ok:=by
 unfold Jrn.Ok x2S I64
 refine ⟨by dsimp only;omega,by dsimp only;omega,by dsimp only;omega,by dsimp only;omega,by dsimp only;omega,fun l hl=>?_⟩
 simp only [List.mem_cons,List.not_mem_nil,or_false] at hl
 subst hl;unfold Ln.Ok I64;dsimp only;omega
theorem mS_ok:mS.Ok:=by
 refine ⟨fun r hr=>?_,fun r hr=>?_⟩ <;> (simp only [mS,List.mem_cons,List.not_mem_nil,or_false] at hr;subst hr;unfold Rf.Ok I64;dsimp only;omega)
theorem exam_world (W2 V:World) (hV:V.heap.size=W2.heap.size) :
  Keeps V ((((((V.alloc (.cells #[.int .i64 20,.int .i64 100,.int .i64 1] 103)).alloc (.cells #[.int .i64 60,.int .i64 (-98),.int .i64 0] 103)).alloc (.cells #[.int .i64 1,.int .i64 0,.int .i64 20470,.int .i64 0,.int .i64 0,.string ⟨#[]⟩,.slice (some ⟨W2.heap.size,0,none⟩) 1 1,.int .i64 2,.int .i64 1,.int .i64 20470,.int .i64 0,.int .i64 0,.string ⟨#[]⟩,.slice (some ⟨W2.heap.size+1,0,none⟩) 1 1] 56)).alloc (.cells #[.int .i64 1,.int .i64 0] 51)).alloc (.cells #[.int .i64 2,.int .i64 0] 51)).alloc (.cells #[.int .i64 3,.slice (some ⟨W2.heap.size+3,0,none⟩) 1 1,.slice (some ⟨W2.heap.size+4,0,none⟩) 1 1,.int .i64 4] 48))∧Jrns ((((((V.alloc (.cells #[.int .i64 20,.int .i64 100,.int .i64 1] 103)).alloc (.cells #[.int .i64 60,.int .i64 (-98),.int .i64 0] 103)).alloc (.cells #[.int .i64 1,.int .i64 0,.int .i64 20470,.int .i64 0,.int .i64 0,.string ⟨#[]⟩,.slice (some ⟨W2.heap.size,0,none⟩) 1 1,.int .i64 2,.int .i64 1,.int .i64 20470,.int .i64 0,.int .i64 0,.string ⟨#[]⟩,.slice (some ⟨W2.heap.size+1,0,none⟩) 1 1] 56)).alloc (.cells #[.int .i64 1,.int .i64 0] 51)).alloc (.cells #[.int .i64 2,.int .i64 0] 51)).alloc (.cells #[.int .i64 3,.slice (some ⟨W2.heap.size+3,0,none⟩) 1 1,.slice (some ⟨W2.heap.size+4,0,none⟩) 1 1,.int .i64 4] 48)) (esS W2.heap.size (W2.heap.size+1)) (some ⟨W2.heap.size+2,0,none⟩) 2 (W2.heap.size+2) 0∧Mts ((((((V.alloc (.cells #[.int .i64 20,.int .i64 100,.int .i64 1] 103)).alloc (.cells #[.int .i64 60,.int .i64 (-98),.int .i64 0] 103)).alloc (.cells #[.int .i64 1,.int .i64 0,.int .i64 20470,.int .i64 0,.int .i64 0,.string ⟨#[]⟩,.slice (some ⟨W2.heap.size,0,none⟩) 1 1,.int .i64 2,.int .i64 1,.int .i64 20470,.int .i64 0,.int .i64 0,.string ⟨#[]⟩,.slice (some ⟨W2.heap.size+1,0,none⟩) 1 1] 56)).alloc (.cells #[.int .i64 1,.int .i64 0] 51)).alloc (.cells #[.int .i64 2,.int .i64 0] 51)).alloc (.cells #[.int .i64 3,.slice (some ⟨W2.heap.size+3,0,none⟩) 1 1,.slice (some ⟨W2.heap.size+4,0,none⟩) 1 1,.int .i64 4] 48)) (msS (W2.heap.size+3) (W2.heap.size+4)) (some ⟨W2.heap.size+5,0,none⟩) 1 (W2.heap.size+5) 0:=by
 obtain ⟨A1,e1⟩:∃ A,V.alloc (.cells #[.int .i64 20,.int .i64 100,.int .i64 1] 103)=A:=⟨_,rfl⟩
 have z1:A1.heap.size=W2.heap.size+1:=by rw [← e1];simp [hV]
 have g1:Keeps V A1:=by rw [← e1];exact (Keeps.refl V).alloc _
 have s1:Sl A1 3 (some ⟨W2.heap.size,0,none⟩) 1 1 W2.heap.size 0 [.int .i64 20,.int .i64 100,.int .i64 1]:=by rw [← e1,← hV];exact Sl.lit V 3 1 _ _ rfl (by omega)
 rw [e1]
 obtain ⟨A2,e2⟩:∃ A,A1.alloc (.cells #[.int .i64 60,.int .i64 (-98),.int .i64 0] 103)=A:=⟨_,rfl⟩
 have z2:A2.heap.size=W2.heap.size+2:=by rw [← e2];simp [z1]
 have g2:Keeps A1 A2:=by rw [← e2];exact (Keeps.refl A1).alloc _
 have s2:Sl A2 3 (some ⟨W2.heap.size+1,0,none⟩) 1 1 (W2.heap.size+1) 0 [.int .i64 60,.int .i64 (-98),.int .i64 0]:=by rw [← e2,← z1];exact Sl.lit A1 3 1 _ _ rfl (by omega)
 rw [e2]
 obtain ⟨A3,e3⟩:∃ A,A2.alloc (.cells #[.int .i64 1,.int .i64 0,.int .i64 20470,.int .i64 0,.int .i64 0,.string ⟨#[]⟩,.slice (some ⟨W2.heap.size,0,none⟩) 1 1,.int .i64 2,.int .i64 1,.int .i64 20470,.int .i64 0,.int .i64 0,.string ⟨#[]⟩,.slice (some ⟨W2.heap.size+1,0,none⟩) 1 1] 56)=A:=⟨_,rfl⟩
 have z3:A3.heap.size=W2.heap.size+3:=by rw [← e3];simp [z2]
 have g3:Keeps A2 A3:=by rw [← e3];exact (Keeps.refl A2).alloc _
 have s3:Sl A3 7 (some ⟨W2.heap.size+2,0,none⟩) 2 2 (W2.heap.size+2) 0 [.int .i64 1,.int .i64 0,.int .i64 20470,.int .i64 0,.int .i64 0,.string ⟨#[]⟩,.slice (some ⟨W2.heap.size,0,none⟩) 1 1,.int .i64 2,.int .i64 1,.int .i64 20470,.int .i64 0,.int .i64 0,.string ⟨#[]⟩,.slice (some ⟨W2.heap.size+1,0,none⟩) 1 1]:=by rw [← e3,← z2];exact Sl.lit A2 7 2 _ _ rfl (by omega)
 rw [e3]
 obtain ⟨A5,e5⟩:∃ A,A3.alloc (.cells #[.int .i64 1,.int .i64 0] 51)=A:=⟨_,rfl⟩
 have z5:A5.heap.size=W2.heap.size+4:=by rw [← e5];simp [z3]
 have g5:Keeps A3 A5:=by rw [← e5];exact (Keeps.refl A3).alloc _
 have s5:Sl A5 2 (some ⟨W2.heap.size+3,0,none⟩) 1 1 (W2.heap.size+3) 0 [.int .i64 1,.int .i64 0]:=by rw [← e5,← z3];exact Sl.lit A3 2 1 _ _ rfl (by omega)
 rw [e5]
 obtain ⟨A6,e6⟩:∃ A,A5.alloc (.cells #[.int .i64 2,.int .i64 0] 51)=A:=⟨_,rfl⟩
 have z6:A6.heap.size=W2.heap.size+5:=by rw [← e6];simp [z5]
 have g6:Keeps A5 A6:=by rw [← e6];exact (Keeps.refl A5).alloc _
 have s6:Sl A6 2 (some ⟨W2.heap.size+4,0,none⟩) 1 1 (W2.heap.size+4) 0 [.int .i64 2,.int .i64 0]:=by rw [← e6,← z5];exact Sl.lit A5 2 1 _ _ rfl (by omega)
 rw [e6]
 have g7:Keeps A6 (A6.alloc (.cells #[.int .i64 3,.slice (some ⟨W2.heap.size+3,0,none⟩) 1 1,.slice (some ⟨W2.heap.size+4,0,none⟩) 1 1,.int .i64 4] 48)):=(Keeps.refl A6).alloc _
 have s7:Sl (A6.alloc (.cells #[.int .i64 3,.slice (some ⟨W2.heap.size+3,0,none⟩) 1 1,.slice (some ⟨W2.heap.size+4,0,none⟩) 1 1,.int .i64 4] 48)) 4 (some ⟨W2.heap.size+5,0,none⟩) 1 1 (W2.heap.size+5) 0 [.int .i64 3,.slice (some ⟨W2.heap.size+3,0,none⟩) 1 1,.slice (some ⟨W2.heap.size+4,0,none⟩) 1 1,.int .i64 4]:=by rw [← z6];exact Sl.lit A6 4 1 _ _ rfl (by omega)
 have t6:=g7
 have t5:=g6.trans t6
 have t3:=g5.trans t5
 have t2:=g3.trans t3
 have t1:=g2.trans t2
 refine ⟨g1.trans t1,⟨Sl.keeps s3 t3,fun e he=>?_⟩,⟨s7,fun m hm=>?_,fun m hm=>?_⟩⟩
 ·simp only [esS,List.mem_cons,List.not_mem_nil,or_false] at he
  rcases he with rfl | rfl
  ·exact Sl.keeps s1 t1
  ·exact Sl.keeps s2 t2
 ·simp only [msS,List.mem_cons,List.not_mem_nil,or_false] at hm
  subst hm
  exact Sl.keeps s5 t5
 ·simp only [msS,List.mem_cons,List.not_mem_nil,or_false] at hm
  subst hm
  exact Sl.keeps s6 t6
set_option maxRecDepth 100000 in
theorem example_any (w:World):Calls Tryz.prog 22 #[] w fun e w'=>∃ (bv:List Value) (l q r t:Nat) (ai:Option Addr) (ci bi:Nat),e=.returned (.tuple #[.agg bv.toArray,.slice ai 2 ci])∧BkG w' bv gS (esS l q) hsS (msS r t)∧Recs w' 7 Itm.cells ai itS ci bi 0∧Keeps w w':=by
 have hb0:RowB (w.alloc (.cells #[.string ⟨#[]⟩,.int .i64 0,.int .i64 0,.int .i64 0,.slice none 0 0,.int .i64 0,.int .i64 0,.int .i64 0,.int .i64 0,.int .i64 0,.int .i64 0,.int .i64 0,.int .i64 0,.int .i64 0,.int .i64 0,.int .i64 0,.int .i64 0,.int .i64 0,.int .i64 0,.int .i64 0,.slice none 0 0,.slice none 0 0,.slice none 0 0,.slice none 0 0,.slice none 0 0,.slice none 0 0,.string ⟨#[]⟩] 36)) w.heap.size 36 zB:=RowB.new w _ _
 have hk0:Keeps w (w.alloc (.cells #[.string ⟨#[]⟩,.int .i64 0,.int .i64 0,.int .i64 0,.slice none 0 0,.int .i64 0,.int .i64 0,.int .i64 0,.int .i64 0,.int .i64 0,.int .i64 0,.int .i64 0,.int .i64 0,.int .i64 0,.int .i64 0,.int .i64 0,.int .i64 0,.int .i64 0,.int .i64 0,.int .i64 0,.slice none 0 0,.slice none 0 0,.slice none 0 0,.slice none 0 0,.slice none 0 0,.slice none 0 0,.string ⟨#[]⟩] 36)):=(Keeps.refl w).alloc _
 obtain ⟨W1,hW1⟩:∃ W1,w.alloc (.cells #[.string ⟨#[]⟩,.int .i64 0,.int .i64 0,.int .i64 0,.slice none 0 0,.int .i64 0,.int .i64 0,.int .i64 0,.int .i64 0,.int .i64 0,.int .i64 0,.int .i64 0,.int .i64 0,.int .i64 0,.int .i64 0,.int .i64 0,.int .i64 0,.int .i64 0,.int .i64 0,.int .i64 0,.slice none 0 0,.slice none 0 0,.slice none 0 0,.slice none 0 0,.slice none 0 0,.slice none 0 0,.string ⟨#[]⟩] 36)=W1:=⟨_,rfl⟩
 rw [hW1] at hb0 hk0
 have HB0:=Lib.hid hb0
 have HK0:=Lib.hid hk0
 clear hb0 hk0
 go_enter Tryz.func22,Tryz.ntmps22
 go_upto_region 1 with fail
 try rw [hW1]
 clear hW1
 go_upto_region 2 with (first | (go_at_call 37;(refine (sample_any _).mono ?_);rintro e1 w1 ⟨aoC,capC,bC,aoE,capE,bE,rfl,hC,hk1⟩;have HC1:=Lib.hid hC;have K1:=Lib.hid (HK0.out.trans hk1);have KK1:=Lib.hid hk1;clear hC hk1) | (refine wpList_bbk rfl _ _ rfl (.slice aoC gS.chart.length capC) (.slice aoE gS.ents.length capE) (some ⟨w1.heap.size,0,none⟩) 1 1 rfl rfl ?_) | (refine wpList_store_mid rfl 36 _ _ rfl (w1.heap.size+1) 0 ((bkS (.slice aoC gS.chart.length capC) (.slice aoE gS.ents.length capE) (.slice none 0 0) (.slice (some ⟨w1.heap.size,0,none⟩) 1 1) (.slice none 0 0))).toArray rfl rfl (by have:=there_newP (w1.alloc (.cells #[.int .i64 0,.int .i64 1,.int .i64 (-25567),.int .i64 10000] 101)) 36 zB;rw [World.size_alloc] at this;exact this) booksSize (all_oneCell_toArray (bkS_one rfl rfl rfl rfl rfl)) ?_))
 have hb2:RowB (((w1.alloc (.cells #[.int .i64 0,.int .i64 1,.int .i64 (-25567),.int .i64 10000] 101)).alloc (.cells #[.string ⟨#[]⟩,.int .i64 0,.int .i64 0,.int .i64 0,.slice none 0 0,.int .i64 0,.int .i64 0,.int .i64 0,.int .i64 0,.int .i64 0,.int .i64 0,.int .i64 0,.int .i64 0,.int .i64 0,.int .i64 0,.int .i64 0,.int .i64 0,.int .i64 0,.int .i64 0,.int .i64 0,.slice none 0 0,.slice none 0 0,.slice none 0 0,.slice none 0 0,.slice none 0 0,.slice none 0 0,.string ⟨#[]⟩] 36)).setCells (w1.heap.size+1) 0 ((bkS (.slice aoC gS.chart.length capC) (.slice aoE gS.ents.length capE) (.slice none 0 0) (.slice (some ⟨w1.heap.size,0,none⟩) 1 1) (.slice none 0 0)))) (w1.heap.size+1) 36 ((bkS (.slice aoC gS.chart.length capC) (.slice aoE gS.ents.length capE) (.slice none 0 0) (.slice (some ⟨w1.heap.size,0,none⟩) 1 1) (.slice none 0 0))):=by
  have:=RowB.new (w1.alloc (.cells #[.int .i64 0,.int .i64 1,.int .i64 (-25567),.int .i64 10000] 101)) 36 zB
  rw [World.size_alloc] at this
  exact rowB_all this rfl
 have hk2:Keeps w1 (((w1.alloc (.cells #[.int .i64 0,.int .i64 1,.int .i64 (-25567),.int .i64 10000] 101)).alloc (.cells #[.string ⟨#[]⟩,.int .i64 0,.int .i64 0,.int .i64 0,.slice none 0 0,.int .i64 0,.int .i64 0,.int .i64 0,.int .i64 0,.int .i64 0,.int .i64 0,.int .i64 0,.int .i64 0,.int .i64 0,.int .i64 0,.int .i64 0,.int .i64 0,.int .i64 0,.int .i64 0,.int .i64 0,.slice none 0 0,.slice none 0 0,.slice none 0 0,.slice none 0 0,.slice none 0 0,.slice none 0 0,.string ⟨#[]⟩] 36)).setCells (w1.heap.size+1) 0 ((bkS (.slice aoC gS.chart.length capC) (.slice aoE gS.ents.length capE) (.slice none 0 0) (.slice (some ⟨w1.heap.size,0,none⟩) 1 1) (.slice none 0 0)))):=keeps_setCellsP (Nat.le_succ _) _ _ _ (((Keeps.refl w1).alloc _).alloc _)
 have hh2:Hols (((w1.alloc (.cells #[.int .i64 0,.int .i64 1,.int .i64 (-25567),.int .i64 10000] 101)).alloc (.cells #[.string ⟨#[]⟩,.int .i64 0,.int .i64 0,.int .i64 0,.slice none 0 0,.int .i64 0,.int .i64 0,.int .i64 0,.int .i64 0,.int .i64 0,.int .i64 0,.int .i64 0,.int .i64 0,.int .i64 0,.int .i64 0,.int .i64 0,.int .i64 0,.int .i64 0,.int .i64 0,.int .i64 0,.slice none 0 0,.slice none 0 0,.slice none 0 0,.slice none 0 0,.slice none 0 0,.slice none 0 0,.string ⟨#[]⟩] 36)).setCells (w1.heap.size+1) 0 ((bkS (.slice aoC gS.chart.length capC) (.slice aoE gS.ents.length capE) (.slice none 0 0) (.slice (some ⟨w1.heap.size,0,none⟩) 1 1) (.slice none 0 0)))) (some ⟨w1.heap.size,0,none⟩) hsS 1 w1.heap.size 0:=sl_setCells (Sl.keeps (Sl.lit w1 4 1 [.int .i64 0,.int .i64 1,.int .i64 (-25567),.int .i64 10000] 101 rfl (by omega)) ((Keeps.refl _).alloc _)) (by omega) _ _
 have hz2:w1.heap.size+2=(((w1.alloc (.cells #[.int .i64 0,.int .i64 1,.int .i64 (-25567),.int .i64 10000] 101)).alloc (.cells #[.string ⟨#[]⟩,.int .i64 0,.int .i64 0,.int .i64 0,.slice none 0 0,.int .i64 0,.int .i64 0,.int .i64 0,.int .i64 0,.int .i64 0,.int .i64 0,.int .i64 0,.int .i64 0,.int .i64 0,.int .i64 0,.int .i64 0,.int .i64 0,.int .i64 0,.int .i64 0,.int .i64 0,.slice none 0 0,.slice none 0 0,.slice none 0 0,.slice none 0 0,.slice none 0 0,.slice none 0 0,.string ⟨#[]⟩] 36)).setCells (w1.heap.size+1) 0 ((bkS (.slice aoC gS.chart.length capC) (.slice aoE gS.ents.length capE) (.slice none 0 0) (.slice (some ⟨w1.heap.size,0,none⟩) 1 1) (.slice none 0 0)))).heap.size:=by rw [size_sets];simp
 obtain ⟨W2,hW2⟩:∃ W2,(((w1.alloc (.cells #[.int .i64 0,.int .i64 1,.int .i64 (-25567),.int .i64 10000] 101)).alloc (.cells #[.string ⟨#[]⟩,.int .i64 0,.int .i64 0,.int .i64 0,.slice none 0 0,.int .i64 0,.int .i64 0,.int .i64 0,.int .i64 0,.int .i64 0,.int .i64 0,.int .i64 0,.int .i64 0,.int .i64 0,.int .i64 0,.int .i64 0,.int .i64 0,.int .i64 0,.int .i64 0,.int .i64 0,.slice none 0 0,.slice none 0 0,.slice none 0 0,.slice none 0 0,.slice none 0 0,.slice none 0 0,.string ⟨#[]⟩] 36)).setCells (w1.heap.size+1) 0 ((bkS (.slice aoC gS.chart.length capC) (.slice aoE gS.ents.length capE) (.slice none 0 0) (.slice (some ⟨w1.heap.size,0,none⟩) 1 1) (.slice none 0 0))))=W2:=⟨_,rfl⟩
 rw [hW2] at hb2 hk2 hh2 hz2 ⊢
 clear hW2
 have HH2:=Lib.hid hh2
 have HK2:=Lib.hid hk2
 obtain ⟨X2,hX2⟩:∃ X2,w1.heap.size+1=X2:=⟨_,rfl⟩
 have hlx:w1.heap.size < X2:=by omega
 rw [hX2] at hb2 ⊢
 clear hX2
 have HLX:=Lib.hid hlx
 have HB2:=Lib.hid hb2
 have x21:W2.cell? ⟨X2,21,none⟩=some (.slice none 0 0):=RowB.cell hb2 21 _ rfl
 have x24:W2.cell? ⟨X2,24,none⟩=some (.slice none 0 0):=RowB.cell hb2 24 _ rfl
 have y21:=RowB.frozen hb2 21
 have y24:=RowB.frozen hb2 24
 have hzz:=hb2.lt
 have hzz1:X2 < W2.heap.size+1:=by omega
 have hzz2:X2 < W2.heap.size+1+1:=by omega
 have hzz3:X2 < W2.heap.size+1+1+1:=by omega
 have hzz4:X2 < W2.heap.size+1+1+1+1:=by omega
 have hzz5:X2 < W2.heap.size+1+1+1+1+1:=by omega
 have hzz6:X2 < W2.heap.size+1+1+1+1+1+1:=by omega
 clear hb2 hk2 hh2 hz2 hlx
 go_upto_region 4 with fail
 have hv21:=(HB2.out.set 21 (.slice (some ⟨W2.heap.size+2,0,none⟩) 2 2)).set 24 (.slice (some ⟨W2.heap.size+5,0,none⟩) 1 1)
 obtain ⟨V,hV⟩:∃ V,(W2.setCell ⟨X2,21,none⟩ (.slice (some ⟨W2.heap.size+2,0,none⟩) 2 2)).setCell ⟨X2,24,none⟩ (.slice (some ⟨W2.heap.size+5,0,none⟩) 1 1)=V:=⟨_,rfl⟩
 have hkv:Keeps w1 V:=by rw [← hV];exact (HK2.out.setCell (p:=⟨X2,21,none⟩) (Nat.le_of_lt HLX.out) _).setCell (p:=⟨X2,24,none⟩) (Nat.le_of_lt HLX.out) _
 have hgv:W2.grownBy V (some X2):=by rw [← hV];exact (grown_set _ _ _ _).trans (grown_set _ _ _ _)
 have hsv:V.heap.size=W2.heap.size:=by rw [← hV,World.size_setCell,World.size_setCell]
 rw [hV] at hv21
 have HXW:=Lib.hid (exam_world W2 V hsv)
 rw [show (W2.setCell ⟨X2,21,none⟩ (.slice (some ⟨W2.heap.size+1+1,0,none⟩) 2 2)).setCell ⟨X2,24,none⟩ (.slice (some ⟨W2.heap.size+1+1+1+1+1,0,none⟩) 1 1)=V from hV]
 have HH3:Hid (Hols V (some ⟨w1.heap.size,0,none⟩) hsS 1 w1.heap.size 0):=Lib.hid (Sl.grownR HH2.out hgv (fun e=>by have:=Option.some.inj e;have:=HLX.out;omega))
 have HV21:=Lib.hid hv21
 have HKV:=Lib.hid hkv
 have HSV:=Lib.hid hsv
 clear hv21 hkv hgv hsv hV x21 x24 y21 y24 hzz hzz1 hzz2 hzz3 hzz4 hzz5 hzz6
 obtain ⟨W8,hW8⟩:∃ W8,((((((V.alloc (.cells #[.int .i64 20,.int .i64 100,.int .i64 1] 103)).alloc (.cells #[.int .i64 60,.int .i64 (-98),.int .i64 0] 103)).alloc (.cells #[.int .i64 1,.int .i64 0,.int .i64 20470,.int .i64 0,.int .i64 0,.string ⟨#[]⟩,.slice (some ⟨W2.heap.size,0,none⟩) 1 1,.int .i64 2,.int .i64 1,.int .i64 20470,.int .i64 0,.int .i64 0,.string ⟨#[]⟩,.slice (some ⟨W2.heap.size+1,0,none⟩) 1 1] 56)).alloc (.cells #[.int .i64 1,.int .i64 0] 51)).alloc (.cells #[.int .i64 2,.int .i64 0] 51)).alloc (.cells #[.int .i64 3,.slice (some ⟨W2.heap.size+3,0,none⟩) 1 1,.slice (some ⟨W2.heap.size+4,0,none⟩) 1 1,.int .i64 4] 48))=W8:=⟨_,rfl⟩
 rw [hW8] at HXW
 rw [show ((((((V.alloc (.cells #[.int .i64 20,.int .i64 100,.int .i64 1] 103)).alloc (.cells #[.int .i64 60,.int .i64 (-98),.int .i64 0] 103)).alloc (.cells #[.int .i64 1,.int .i64 0,.int .i64 20470,.int .i64 0,.int .i64 0,.string ⟨#[]⟩,.slice (some ⟨W2.heap.size,0,none⟩) 1 1,.int .i64 2,.int .i64 1,.int .i64 20470,.int .i64 0,.int .i64 0,.string ⟨#[]⟩,.slice (some ⟨W2.heap.size+1,0,none⟩) 1 1] 56)).alloc (.cells #[.int .i64 1,.int .i64 0] 51)).alloc (.cells #[.int .i64 2,.int .i64 0] 51)).alloc (.cells #[.int .i64 3,.slice (some ⟨W2.heap.size+1+1+1,0,none⟩) 1 1,.slice (some ⟨W2.heap.size+1+1+1+1,0,none⟩) 1 1,.int .i64 4] 48))=W8 from hW8]
 have hz8:W8.heap.size=W2.heap.size+6:=by rw [← hW8];simp [HSV.out]
 clear hW8
 have hbk:RowB W8 X2 36 ((bkS (.slice aoC gS.chart.length capC) (.slice aoE gS.ents.length capE) (.slice (some ⟨W2.heap.size+2,0,none⟩) 2 2) (.slice (some ⟨w1.heap.size,0,none⟩) 1 1) (.slice (some ⟨W2.heap.size+5,0,none⟩) 1 1))):=RowB.keeps (show RowB V X2 36 ((bkS (.slice aoC gS.chart.length capC) (.slice aoE gS.ents.length capE) (.slice (some ⟨W2.heap.size+2,0,none⟩) 2 2) (.slice (some ⟨w1.heap.size,0,none⟩) 1 1) (.slice (some ⟨W2.heap.size+5,0,none⟩) 1 1))) from HV21.out) HXW.out.1
 have HBK:=Lib.hid hbk
 have hkw:Keeps W1 (W8.alloc (.cells #[.int .i64 1,.int .i64 0,.int .i64 0,.int .i64 1100,.int .i64 1,.int .i64 20470,.int .i64 100,.int .i64 2,.int .i64 0,.int .i64 1,.int .i64 2000,.int .i64 0,.int .i64 20470,.int .i64 (-98)] 53)):=(KK1.out.trans (HKV.out.trans HXW.out.1)).alloc _
 have HTH:Hid ((W8.alloc (.cells #[.int .i64 1,.int .i64 0,.int .i64 0,.int .i64 1100,.int .i64 1,.int .i64 20470,.int .i64 100,.int .i64 2,.int .i64 0,.int .i64 1,.int .i64 2000,.int .i64 0,.int .i64 20470,.int .i64 (-98)] 53)).there w.heap.size 0 27):=Lib.hid (there_keeps (rowB_there HB0.out) hkw)
 have hlt:w.heap.size < W1.heap.size:=HB0.out.lt
 have hl1:W1.heap.size≤w1.heap.size:=KK1.out.size
 have hl2:w1.heap.size≤W2.heap.size:=HK2.out.size
 have HKW:=Lib.hid hkw
 clear hbk hkw
 go_wp2_with (first | (refine wpList_rowG 36 _ rfl rfl X2 ((bkS (.slice aoC gS.chart.length capC) (.slice aoE gS.ents.length capE) (.slice (some ⟨W2.heap.size+2,0,none⟩) 2 2) (.slice (some ⟨w1.heap.size,0,none⟩) 1 1) (.slice (some ⟨W2.heap.size+5,0,none⟩) 1 1))) _ rfl (RowB.range HBK.out) Tryz.underlying36 rfl booksSize ?_) | (refine wpList_store_mid rfl 36 _ _ rfl w.heap.size 0 ((bkS (.slice aoC gS.chart.length capC) (.slice aoE gS.ents.length capE) (.slice (some ⟨W2.heap.size+2,0,none⟩) 2 2) (.slice (some ⟨w1.heap.size,0,none⟩) 1 1) (.slice (some ⟨W2.heap.size+5,0,none⟩) 1 1))).toArray rfl rfl HTH.out booksSize (all_oneCell_toArray (bkS_one rfl rfl rfl rfl rfl)) ?_))
 refine bodyPost_ret (results_row_tmp rfl _ _ w.heap.size ((bkS (.slice aoC gS.chart.length capC) (.slice aoE gS.ents.length capE) (.slice (some ⟨W2.heap.size+2,0,none⟩) 2 2) (.slice (some ⟨w1.heap.size,0,none⟩) 1 1) (.slice (some ⟨W2.heap.size+5,0,none⟩) 1 1))) _ rfl (World.rangeAt_setCells_same _ _ _ _ HTH.out) Tryz.underlying36 rfl booksSize) rfl ?_
 have k8:Keeps W8 (W8.alloc (.cells #[.int .i64 1,.int .i64 0,.int .i64 0,.int .i64 1100,.int .i64 1,.int .i64 20470,.int .i64 100,.int .i64 2,.int .i64 0,.int .i64 1,.int .i64 2000,.int .i64 0,.int .i64 20470,.int .i64 (-98)] 53)):=(Keeps.refl W8).alloc _
 have hs1:=((HC1.out.keeps (HKV.out.trans (HXW.out.1.trans k8))).set (B:=w.heap.size) (Nat.le_of_lt hlt) ((bkS (.slice aoC gS.chart.length capC) (.slice aoE gS.ents.length capE) (.slice (some ⟨W2.heap.size+2,0,none⟩) 2 2) (.slice (some ⟨w1.heap.size,0,none⟩) 1 1) (.slice (some ⟨W2.heap.size+5,0,none⟩) 1 1))))
 have hw1:w1.heap.size≠w.heap.size:=by omega
 have hsit:=Sl.lit W8 7 2 (itS.flatMap Itm.cells) 53 rfl (by omega)
 rw [hz8] at hsit
 refine ⟨(bkS (.slice aoC gS.chart.length capC) (.slice aoE gS.ents.length capE) (.slice (some ⟨W2.heap.size+2,0,none⟩) 2 2) (.slice (some ⟨w1.heap.size,0,none⟩) 1 1) (.slice (some ⟨W2.heap.size+5,0,none⟩) 1 1)),W2.heap.size,W2.heap.size+1,W2.heap.size+3,W2.heap.size+4,some ⟨W2.heap.size+6,0,none⟩,2,W2.heap.size+6,rfl,⟨⟨rfl,bkS_one rfl rfl rfl rfl rfl,⟨_,_,_,_,rfl,(HXW.out.2.1.keeps k8).setCells (by omega) (fun e he=>?_) _ _⟩,⟨_,_,_,_,rfl,sl_setCells (HXW.out.2.2.keeps k8).row (by omega) _ _,fun m hm=>sl_setCells ((HXW.out.2.2.keeps k8).left m hm) ?_ _ _,fun m hm=>sl_setCells ((HXW.out.2.2.keeps k8).right m hm) ?_ _ _⟩,fun e he=>?_,fun m hm=>?_⟩,⟨aoC,capC,bC,0,aoE,capE,bE,0,fun j v hv=>?_,hs1.2.1,hs1.ents⟩,⟨_,_,_,_,rfl,sl_setCells (Sl.keeps HH3.out (HXW.out.1.trans k8)) hw1 _ _⟩⟩,sl_setCells hsit (by omega) _ _,keeps_setCellsP (Nat.le_refl _) _ _ _ (HK0.out.trans HKW.out)⟩
 ·simp only [esS,List.mem_cons,List.not_mem_nil,or_false] at he
  rcases he with rfl | rfl <;> (dsimp only;omega)
 ·simp only [msS,List.mem_cons,List.not_mem_nil,or_false] at hm
  subst hm;dsimp only;omega
 ·simp only [msS,List.mem_cons,List.not_mem_nil,or_false] at hm
  subst hm;dsimp only;omega
 ·simp only [esS,List.mem_cons,List.not_mem_nil,or_false] at he
  rcases he with rfl | rfl
  ·exact x1S_ok
  ·exact x2S_ok
 ·simp only [msS,List.mem_cons,List.not_mem_nil,or_false] at hm
  subst hm;exact mS_ok
 ·unfold bkS
  rw [List.getElem?_append_left (List.getElem?_eq_some_iff.1 hv).1]
  exact hv
end Go.Proofs.YtoaidbhiciaeaaaGreat

end
section
namespace Go.Proofs.YtoaidbhiciaeaaaGreat
open Go.RowKit
theorem pstS_lit (w:World):PsV ((w.alloc (.cells #[.int .i64 1100,.int .i64 (-100),.int .i64 2000,.int .i64 98,.int .i64 5600,.int .i64 2] 63)).alloc (.cells #[.int .i64 3,.int .i64 0,.int .i64 3,.int .i64 0,.slice (some ⟨w.heap.size,0,none⟩) 3 3] 59)) pstS (.slice (some ⟨w.heap.size+1,0,none⟩) 1 1):=by
 have h1:=Sl.lit w 2 3 [.int .i64 1100,.int .i64 (-100),.int .i64 2000,.int .i64 98,.int .i64 5600,.int .i64 2] 63 rfl (by omega)
 have h2:=Sl.lit (w.alloc (.cells #[.int .i64 1100,.int .i64 (-100),.int .i64 2000,.int .i64 98,.int .i64 5600,.int .i64 2] 63)) 5 1 [.int .i64 3,.int .i64 0,.int .i64 3,.int .i64 0,.slice (some ⟨w.heap.size,0,none⟩) 3 3] 59 rfl (by omega)
 rw [World.size_alloc] at h2
 refine ⟨[⟨⟨3,0,3,0,[⟨1100,-100⟩,⟨2000,98⟩,⟨5600,2⟩]⟩,some ⟨w.heap.size,0,none⟩,3,w.heap.size⟩],_,1,_,rfl,h2,fun e he=>?_,rfl⟩
 rw [List.mem_singleton] at he
 subst he
 exact Sl.keeps h1 ((Keeps.refl _).alloc _)
theorem thereZ (w:World):(w.alloc (.cells #[.string ⟨#[]⟩,.int .i64 0,.int .i64 0,.int .i64 0,.slice none 0 0,.int .i64 0,.int .i64 0,.int .i64 0,.int .i64 0,.int .i64 0,.int .i64 0,.int .i64 0,.int .i64 0,.int .i64 0,.int .i64 0,.int .i64 0,.int .i64 0,.int .i64 0,.int .i64 0,.int .i64 0,.slice none 0 0,.slice none 0 0,.slice none 0 0,.slice none 0 0,.slice none 0 0,.slice none 0 0,.string ⟨#[]⟩] 36)).there w.heap.size 0 27:=by
 have h:=there_newP w 36 zB
 have hl:zB.length=27:=rfl
 rw [hl] at h
 exact h
set_option maxRecDepth 100000 in
theorem awake_any (w:World):Calls Tryz.prog 9 #[] w fun e w'=>e=.returned (.bool true)∧Keeps w w':=by
 go_enter Tryz.func9,Tryz.ntmps9
 go_upto_region 2 with (first | (go_at_call 22;(refine (example_any _).mono ?_);rintro e1 w1 ⟨bv,l,q,r,t,ai,ci,bi,rfl,hB,hI,hk1⟩;have HB1:=Lib.hid hB;have HI1:=Lib.hid hI;have K1:=Lib.hid hk1;have hbl:=hB.bks.len;have HBL:=Lib.hid hbl;have HON:=Lib.hid hB.bks.one;clear hB hI hk1 hbl) | (refine wpList_store_mid rfl 36 _ _ rfl w1.heap.size 0 bv.toArray rfl rfl (by have h:=thereZ w1;rw [← HBL.out] at h;exact h) (by rw [List.size_toArray,HBL.out];exact booksSize) (all_oneCell_toArray HON.out) ?_))
 have hth:(w1.alloc (.cells #[.string ⟨#[]⟩,.int .i64 0,.int .i64 0,.int .i64 0,.slice none 0 0,.int .i64 0,.int .i64 0,.int .i64 0,.int .i64 0,.int .i64 0,.int .i64 0,.int .i64 0,.int .i64 0,.int .i64 0,.int .i64 0,.int .i64 0,.int .i64 0,.int .i64 0,.int .i64 0,.int .i64 0,.slice none 0 0,.slice none 0 0,.slice none 0 0,.slice none 0 0,.slice none 0 0,.slice none 0 0,.string ⟨#[]⟩] 36)).there w1.heap.size 0 bv.length:=by rw [HBL.out];exact thereZ w1
 have hrg:((w1.alloc (.cells #[.string ⟨#[]⟩,.int .i64 0,.int .i64 0,.int .i64 0,.slice none 0 0,.int .i64 0,.int .i64 0,.int .i64 0,.int .i64 0,.int .i64 0,.int .i64 0,.int .i64 0,.int .i64 0,.int .i64 0,.int .i64 0,.int .i64 0,.int .i64 0,.int .i64 0,.int .i64 0,.int .i64 0,.slice none 0 0,.slice none 0 0,.slice none 0 0,.slice none 0 0,.slice none 0 0,.slice none 0 0,.string ⟨#[]⟩] 36)).setCells w1.heap.size 0 bv).rangeAt w1.heap.size 0 bv:=World.rangeAt_setCells_same _ _ _ _ hth
 have hk2:Keeps w1 ((w1.alloc (.cells #[.string ⟨#[]⟩,.int .i64 0,.int .i64 0,.int .i64 0,.slice none 0 0,.int .i64 0,.int .i64 0,.int .i64 0,.int .i64 0,.int .i64 0,.int .i64 0,.int .i64 0,.int .i64 0,.int .i64 0,.int .i64 0,.int .i64 0,.int .i64 0,.int .i64 0,.int .i64 0,.int .i64 0,.slice none 0 0,.slice none 0 0,.slice none 0 0,.slice none 0 0,.slice none 0 0,.slice none 0 0,.string ⟨#[]⟩] 36)).setCells w1.heap.size 0 bv):=keeps_setCellsP (Nat.le_refl _) _ _ _ ((Keeps.refl w1).alloc _)
 obtain ⟨W2,hW2⟩:∃ W2,(w1.alloc (.cells #[.string ⟨#[]⟩,.int .i64 0,.int .i64 0,.int .i64 0,.slice none 0 0,.int .i64 0,.int .i64 0,.int .i64 0,.int .i64 0,.int .i64 0,.int .i64 0,.int .i64 0,.int .i64 0,.int .i64 0,.int .i64 0,.int .i64 0,.int .i64 0,.int .i64 0,.int .i64 0,.int .i64 0,.slice none 0 0,.slice none 0 0,.slice none 0 0,.slice none 0 0,.slice none 0 0,.slice none 0 0,.string ⟨#[]⟩] 36)).setCells w1.heap.size 0 bv=W2:=⟨_,rfl⟩
 rw [hW2] at hrg hk2 ⊢
 clear hW2 hth
 have HRG:=Lib.hid hrg
 have K2:=Lib.hid (K1.out.trans hk2)
 have HPO:Hid (Calls Tryz.prog 11 #[.agg bv.toArray,.slice ai 2 ci,.int .i64 0] W2 fun e w'=>∃ v,e=.returned (.tuple #[v,.int .i64 0])∧PsV w' pstS v∧Keeps W2 w'):=Lib.hid (by
  have:=postings_any bv gS (esS l q) hsS (msS r t) itS 0 ai ci bi 0 W2 (HB1.out.keeps hk2) (HI1.out.keeps hk2) (smallS l q r t) itS_ok
  rw [postsS] at this
  exact this)
 clear hrg hk2
 go_wp2_with (first | (refine wpList_rowG 36 _ rfl rfl w1.heap.size bv _ rfl HRG.out Tryz.underlying36 rfl (by rw [HBL.out];exact booksSize) ?_) | (go_at_call 11;(refine (HPO.out).mono ?_);rintro e3 w3 ⟨v3,rfl,hp3,hk3⟩;have HP3:=Lib.hid hp3;have K3:=Lib.hid (K2.out.trans hk3);have KK3:=Lib.hid hk3;clear hp3 hk3) | (go_at_call 13;(refine (samep_any pstS _ _ _ (HP3.out.keeps (((Keeps.refl w3).alloc _).alloc _)) (pstS_lit w3)).mono ?_);rintro e4 w4 ⟨rfl,hk4⟩))
 go_ret
 exact ⟨rfl,(((K3.out.alloc _).alloc _).trans hk4)⟩
end Go.Proofs.YtoaidbhiciaeaaaGreat

end
section
namespace Go.Proofs.YtoaidbhiciaeaaaGreat
open Go.RowKit
theorem PsV.shape {w:World} {l:List Pst} {v:Value} (h:PsV w l v):∃ ao cap,v=.slice ao l.length cap∧l.length≤cap∧cap≤9223372036854775807:=by
 obtain ⟨ls,ao,cap,b,rfl,h1,_,h3⟩:=h
 have:ls.length=l.length:=by rw [← h3,List.length_map]
 exact ⟨ao,cap,by rw [this],by rw [← this];exact Sl.le h1,Sl.cap h1⟩
end Go.Proofs.YtoaidbhiciaeaaaGreat

end
