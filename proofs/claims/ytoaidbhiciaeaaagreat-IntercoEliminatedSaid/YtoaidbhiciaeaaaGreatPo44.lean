/- Walks and plain facts that the claim rests on (SmpG, LFew). No condition. -/
import Derived.Test.YtoaidbhiciaeaaaGreatPo38
import Derived.Test.YtoaidbhiciaeaaaGreatPo43
import Derived.Test.YtoaidbhiciaeaaaGreatPo36
import Derived.Test.YtoaidbhiciaeaaaGreatPo39
import Derived.Test.YtoaidbhiciaeaaaGreatPo37
import Derived.Test.YtoaidbhiciaeaaaGreatPo26
set_option linter.unusedSimpArgs false
set_option linter.unusedVariables false
set_option maxHeartbeats 16000000
section
namespace Go.Proofs.YtoaidbhiciaeaaaGreat
open Go.RowKit
def eurS:ByteArray:=⟨#[69,85,82]⟩
def usdS:ByteArray:=⟨#[85,83,68]⟩
def n1S:ByteArray:=⟨#[112,97,114,101,110,116]⟩
def n2S:ByteArray:=⟨#[110,111,114,116,104]⟩
def n3S:ByteArray:=⟨#[119,101,115,116]⟩
def n4S:ByteArray:=⟨#[106,111,105,110,116]⟩
def entS (nm cu:ByteArray) (jt:Bool):Ent:=⟨nm,cu,sAcc 14,sLnk 14,jt⟩
def rlsS:Rls:=⟨1500,1600,1700,1200,3100,3200,3300,3400,3500,4500,4600,4700,5500,5600,5700⟩
def gS:Grp:=⟨eurS,2026,1,36,chF,rlsS,[entS n1S eurS false,entS n2S eurS false,entS n3S usdS false,entS n4S usdS true]⟩
def SentF (N:Nat) (W:World) (a1:Option Addr) (c1:Nat) (a2:Option Addr) (c2:Nat):Prop:=∃ b1 b2,N < b1∧N < b2∧Recs W 4 Acc.cells a1 (sAcc 14) c1 b1 0∧Recs W 3 Lnk.cells a2 (sLnk 14) c2 b2 0
theorem SentF.keeps {N:Nat} {W W':World} {a1:Option Addr} {c1:Nat} {a2:Option Addr} {c2:Nat} (h:SentF N W a1 c1 a2 c2) (k:Keeps W W'):SentF N W' a1 c1 a2 c2:=by
 obtain ⟨b1,b2,h1,h2,h3,h4⟩:=h
 exact ⟨b1,b2,h1,h2,h3.keeps k,h4.keeps k⟩
theorem SentF.set {N B:Nat} {W:World} {a1:Option Addr} {c1:Nat} {a2:Option Addr} {c2:Nat} (hB:B≤N) (h:SentF N W a1 c1 a2 c2) (vs:List Value):SentF N (W.setCells B 0 vs) a1 c1 a2 c2:=by
 obtain ⟨b1,b2,h1,h2,h3,h4⟩:=h
 exact ⟨b1,b2,h1,h2,sl_setCells h3 (by omega) _ _,sl_setCells h4 (by omega) _ _⟩
theorem sentF_of {N base:Nat} {W:World} {a1:Option Addr} {c1:Nat} {a2:Option Addr} {c2:Nat} (hN:N < base) (h1:W.ownsRow base 68 4 (.slice a1 14 c1) 14 ((sAcc 14).flatMap Acc.cells)) (h2:W.ownsRow base 162 3 (.slice a2 14 c2) 14 ((sLnk 14).flatMap Lnk.cells)):SentF N W a1 c1 a2 c2:=by
 obtain ⟨ao,cap,b,e,hs⟩:=Sl.own h1
 cases e
 obtain ⟨ao2,cap2,b2,e2,hs2⟩:=Sl.own h2
 cases e2
 exact ⟨b,b2,Nat.lt_of_lt_of_le hN (own_block h1 hs (by omega)),Nat.lt_of_lt_of_le hN (own_block h2 hs2 (by omega)),hs,hs2⟩
theorem gS_ents (W:World) (N ba:Nat) (hba:N < ba) (p1 p3 p5 p7:Option Addr) (q1 q3 q5 q7:Nat) (p2 p4 p6 p8:Option Addr) (q2 q4 q6 q8:Nat) (h1:SentF N W p1 q1 p2 q2) (h2:SentF N W p3 q3 p4 q4) (h3:SentF N W p5 q5 p6 q6) (h4:SentF N W p7 q7 p8 q8)
  (hr:Recs W 5 EE.cells (some ⟨ba,0,none⟩) [⟨entS n1S eurS false,.slice p1 14 q1,.slice p2 14 q2⟩,⟨entS n2S eurS false,.slice p3 14 q3,.slice p4 14 q4⟩,⟨entS n3S usdS false,.slice p5 14 q5,.slice p6 14 q6⟩,⟨entS n4S usdS true,.slice p7 14 q7,.slice p8 14 q8⟩] 4 ba 0):EntsV W (some ⟨ba,0,none⟩) gS.ents 4 ba 0:=by
 have hi:∀ {nm cu:ByteArray} {jt:Bool} {a1:Option Addr} {c1:Nat} {a2:Option Addr} {c2:Nat},SentF N W a1 c1 a2 c2→AccL W (.slice a1 14 c1) (entS nm cu jt).chart∧LnkL W (.slice a2 14 c2) (entS nm cu jt).links:=fun h=>by
  obtain ⟨b1,b2,_,_,h3,h4⟩:=h
  exact ⟨⟨_,_,b1,0,by rw [show (entS _ _ _).chart=sAcc 14 from rfl,sAcc_len],h3⟩,⟨_,_,b2,0,by rw [show (entS _ _ _).links=sLnk 14 from rfl,sLnk_len],h4⟩⟩
 refine ⟨_,hr,fun k hk=>?_⟩
 have hk4:k < 4:=hk
 match k,hk4 with
 | 0,_=>exact ⟨_,_,fun j u hu=>by rw [flat_get EE.len _ 0 j (by simp) (List.getElem?_eq_some_iff.1 hu).1];exact hu,(hi h1).1,(hi h1).2⟩
 | 1,_=>exact ⟨_,_,fun j u hu=>by rw [flat_get EE.len _ 1 j (by simp) (List.getElem?_eq_some_iff.1 hu).1];exact hu,(hi h2).1,(hi h2).2⟩
 | 2,_=>exact ⟨_,_,fun j u hu=>by rw [flat_get EE.len _ 2 j (by simp) (List.getElem?_eq_some_iff.1 hu).1];exact hu,(hi h3).1,(hi h3).2⟩
 | 3,_=>exact ⟨_,_,fun j u hu=>by rw [flat_get EE.len _ 3 j (by simp) (List.getElem?_eq_some_iff.1 hu).1];exact hu,(hi h4).1,(hi h4).2⟩
def SampF (N:Nat) (W:World) (aoC:Option Addr) (capC bC:Nat) (aoE:Option Addr) (capE bE:Nat):Prop:=N < bC∧Accs W aoC gS.chart capC bC 0∧N < bE∧aoE=some ⟨bE,0,none⟩∧capE=4∧∃ (p1 p2 p3 p4 p5 p6 p7 p8:Option Addr) (q1 q2 q3 q4 q5 q6 q7 q8:Nat),SentF N W p1 q1 p2 q2∧SentF N W p3 q3 p4 q4∧SentF N W p5 q5 p6 q6∧SentF N W p7 q7 p8 q8∧Recs W 5 EE.cells (some ⟨bE,0,none⟩) [⟨entS n1S eurS false,.slice p1 14 q1,.slice p2 14 q2⟩,⟨entS n2S eurS false,.slice p3 14 q3,.slice p4 14 q4⟩,⟨entS n3S usdS false,.slice p5 14 q5,.slice p6 14 q6⟩,⟨entS n4S usdS true,.slice p7 14 q7,.slice p8 14 q8⟩] 4 bE 0
theorem SampF.keeps {N:Nat} {W W':World} {aoC:Option Addr} {capC bC:Nat} {aoE:Option Addr} {capE bE:Nat} (h:SampF N W aoC capC bC aoE capE bE) (k:Keeps W W'):SampF N W' aoC capC bC aoE capE bE:=by
 obtain ⟨h1,h2,h3,h4,h5,p1,p2,p3,p4,p5,p6,p7,p8,q1,q2,q3,q4,q5,q6,q7,q8,e1,e2,e3,e4,e5⟩:=h
 exact ⟨h1,h2.keeps k,h3,h4,h5,p1,p2,p3,p4,p5,p6,p7,p8,q1,q2,q3,q4,q5,q6,q7,q8,e1.keeps k,e2.keeps k,e3.keeps k,e4.keeps k,e5.keeps k⟩
theorem SampF.set {N B:Nat} {W:World} {aoC:Option Addr} {capC bC:Nat} {aoE:Option Addr} {capE bE:Nat} (hB:B≤N) (h:SampF N W aoC capC bC aoE capE bE) (vs:List Value):SampF N (W.setCells B 0 vs) aoC capC bC aoE capE bE:=by
 obtain ⟨h1,h2,h3,h4,h5,p1,p2,p3,p4,p5,p6,p7,p8,q1,q2,q3,q4,q5,q6,q7,q8,e1,e2,e3,e4,e5⟩:=h
 exact ⟨h1,sl_setCells h2 (by omega) _ _,h3,h4,h5,p1,p2,p3,p4,p5,p6,p7,p8,q1,q2,q3,q4,q5,q6,q7,q8,e1.set hB _,e2.set hB _,e3.set hB _,e4.set hB _,sl_setCells e5 (by omega) _ _⟩
theorem SampF.ents {N:Nat} {W:World} {aoC:Option Addr} {capC bC:Nat} {aoE:Option Addr} {capE bE:Nat} (h:SampF N W aoC capC bC aoE capE bE):EntsV W aoE gS.ents capE bE 0:=by
 obtain ⟨h1,h2,h3,rfl,rfl,p1,p2,p3,p4,p5,p6,p7,p8,q1,q2,q3,q4,q5,q6,q7,q8,e1,e2,e3,e4,e5⟩:=h
 exact gS_ents W N bE h3 p1 p3 p5 p7 q1 q3 q5 q7 p2 p4 p6 p8 q2 q4 q6 q8 e1 e2 e3 e4 e5
theorem gS_one (g:Grp) (a b:Value) (ha:a.oneCell'=true) (hb:b.oneCell'=true):∀ v∈g.cells a b,v.oneCell'=true:=by
 intro v hv
 simp only [Grp.cells,List.mem_cons,List.not_mem_nil,or_false] at hv
 rcases hv with rfl | rfl | rfl | rfl | rfl | rfl | rfl | rfl | rfl | rfl | rfl | rfl | rfl | rfl | rfl | rfl | rfl | rfl | rfl | rfl | rfl <;> first | rfl | assumption
def zG:List Value:=[.string ⟨#[]⟩,.int .i64 0,.int .i64 0,.int .i64 0,.slice none 0 0,.int .i64 0,.int .i64 0,.int .i64 0,.int .i64 0,.int .i64 0,.int .i64 0,.int .i64 0,.int .i64 0,.int .i64 0,.int .i64 0,.int .i64 0,.int .i64 0,.int .i64 0,.int .i64 0,.int .i64 0,.slice none 0 0]
set_option maxRecDepth 100000 in
theorem sample_any (w:World):Calls Tryz.prog 37 #[] w fun e w'=>∃ aoC capC bC aoE capE bE,e=.returned (.agg (gS.cells (.slice aoC gS.chart.length capC) (.slice aoE gS.ents.length capE)).toArray)∧SampF w.heap.size w' aoC capC bC aoE capE bE∧Keeps w w':=by
 have hth:=there_newP w 29 zG
 have hk0:Keeps w (w.alloc (.cells #[.string ⟨#[]⟩,.int .i64 0,.int .i64 0,.int .i64 0,.slice none 0 0,.int .i64 0,.int .i64 0,.int .i64 0,.int .i64 0,.int .i64 0,.int .i64 0,.int .i64 0,.int .i64 0,.int .i64 0,.int .i64 0,.int .i64 0,.int .i64 0,.int .i64 0,.int .i64 0,.int .i64 0,.slice none 0 0] 29)):=(Keeps.refl w).alloc _
 have hz1:w.heap.size+1=(w.alloc (.cells #[.string ⟨#[]⟩,.int .i64 0,.int .i64 0,.int .i64 0,.slice none 0 0,.int .i64 0,.int .i64 0,.int .i64 0,.int .i64 0,.int .i64 0,.int .i64 0,.int .i64 0,.int .i64 0,.int .i64 0,.int .i64 0,.int .i64 0,.int .i64 0,.int .i64 0,.int .i64 0,.int .i64 0,.slice none 0 0] 29)).heap.size:=by simp
 change (w.alloc (.cells #[.string ⟨#[]⟩,.int .i64 0,.int .i64 0,.int .i64 0,.slice none 0 0,.int .i64 0,.int .i64 0,.int .i64 0,.int .i64 0,.int .i64 0,.int .i64 0,.int .i64 0,.int .i64 0,.int .i64 0,.int .i64 0,.int .i64 0,.int .i64 0,.int .i64 0,.int .i64 0,.int .i64 0,.slice none 0 0] 29)).there w.heap.size 0 21 at hth
 obtain ⟨W1,hW1⟩:∃ W1,w.alloc (.cells #[.string ⟨#[]⟩,.int .i64 0,.int .i64 0,.int .i64 0,.slice none 0 0,.int .i64 0,.int .i64 0,.int .i64 0,.int .i64 0,.int .i64 0,.int .i64 0,.int .i64 0,.int .i64 0,.int .i64 0,.int .i64 0,.int .i64 0,.int .i64 0,.int .i64 0,.int .i64 0,.int .i64 0,.slice none 0 0] 29)=W1:=⟨_,rfl⟩
 rw [hW1] at hth hk0 hz1
 have HTH:=Lib.hid hth
 have HK0:=Lib.hid hk0
 have hzw:w.heap.size < W1.heap.size:=by omega
 clear hth hk0
 go_enter Tryz.func37,Tryz.ntmps37
 go_upto_region 1 with fail
 try rw [hW1]
 clear hW1 hz1
 go_wp2_with (first | (go_at_call 60;(refine (schart_any _).mono ?_);rintro e1 w1 ⟨v1,rfl,ho1,hk1⟩;obtain ⟨aoC,capC,bC,rfl,hsC⟩:=Sl.own ho1;have HC1:Hid (Accs w1 aoC chF capC bC 0∧w.heap.size < bC):=Lib.hid ⟨hsC,Nat.lt_of_lt_of_le hzw (own_block ho1 hsC (by decide))⟩;have K1:Hid (Keeps W1 w1):=Lib.hid hk1;clear ho1 hk1 hsC) | (refine wpList_store_mid rfl 29 _ _ rfl w.heap.size 0 (gS.cells (.slice aoC chF.length capC) (.slice (some ⟨w5.heap.size,0,none⟩) 4 4)).toArray rfl rfl (there_keeps HTH.out (K5.out.alloc _)) groupSize (all_oneCell_toArray (gS_one gS _ _ rfl rfl)) ?_) | (go_at_call 61;guard_hyp K4:_;(refine (sent_any _ _ _ _).mono ?_);rintro e5 w5 ⟨p7,q7,p8,q8,rfl,hoA,hoL,hk⟩;have F5:Hid (SentF w.heap.size w5 p7 q7 p8 q8):=Lib.hid (sentF_of (by have:=K4.out.size;omega) hoA hoL);have K5:Hid (Keeps W1 w5):=Lib.hid (K4.out.trans hk);have D5:Hid (Keeps w4 w5):=Lib.hid hk;clear hoA hoL hk) | (go_at_call 61;guard_hyp K3:_;(refine (sent_any _ _ _ _).mono ?_);rintro e4 w4 ⟨p5,q5,p6,q6,rfl,hoA,hoL,hk⟩;have F4:Hid (SentF w.heap.size w4 p5 q5 p6 q6):=Lib.hid (sentF_of (by have:=K3.out.size;omega) hoA hoL);have K4:Hid (Keeps W1 w4):=Lib.hid (K3.out.trans hk);have D4:Hid (Keeps w3 w4):=Lib.hid hk;clear hoA hoL hk) | (go_at_call 61;guard_hyp K2:_;(refine (sent_any _ _ _ _).mono ?_);rintro e3 w3 ⟨p3,q3,p4,q4,rfl,hoA,hoL,hk⟩;have F3:Hid (SentF w.heap.size w3 p3 q3 p4 q4):=Lib.hid (sentF_of (by have:=K2.out.size;omega) hoA hoL);have K3:Hid (Keeps W1 w3):=Lib.hid (K2.out.trans hk);have D3:Hid (Keeps w2 w3):=Lib.hid hk;clear hoA hoL hk) | (go_at_call 61;guard_hyp K1:_;(refine (sent_any _ _ _ _).mono ?_);rintro e2 w2 ⟨p1,q1,p2,q2,rfl,hoA,hoL,hk⟩;have F2:Hid (SentF w.heap.size w2 p1 q1 p2 q2):=Lib.hid (sentF_of (by have:=K1.out.size;omega) hoA hoL);have K2:Hid (Keeps W1 w2):=Lib.hid (K1.out.trans hk);have D2:Hid (Keeps w1 w2):=Lib.hid hk;clear hoA hoL hk))
 have hsl:=Sl.lit w5 5 4 (List.flatMap EE.cells [⟨entS n1S eurS false,.slice p1 14 q1,.slice p2 14 q2⟩,⟨entS n2S eurS false,.slice p3 14 q3,.slice p4 14 q4⟩,⟨entS n3S usdS false,.slice p5 14 q5,.slice p6 14 q6⟩,⟨entS n4S usdS true,.slice p7 14 q7,.slice p8 14 q8⟩]) 106 rfl (by omega)
 have hrg:((w5.alloc (.cells (List.flatMap EE.cells [⟨entS n1S eurS false,.slice p1 14 q1,.slice p2 14 q2⟩,⟨entS n2S eurS false,.slice p3 14 q3,.slice p4 14 q4⟩,⟨entS n3S usdS false,.slice p5 14 q5,.slice p6 14 q6⟩,⟨entS n4S usdS true,.slice p7 14 q7,.slice p8 14 q8⟩]).toArray 106)).setCells w.heap.size 0 (gS.cells (.slice aoC chF.length capC) (.slice (some ⟨w5.heap.size,0,none⟩) 4 4))).rangeAt w.heap.size 0 (gS.cells (.slice aoC chF.length capC) (.slice (some ⟨w5.heap.size,0,none⟩) 4 4)):=World.rangeAt_setCells_same _ _ _ _ (there_keeps HTH.out (K5.out.alloc _))
 have hbw:w.heap.size < w5.heap.size:=by have:=K5.out.size;omega
 refine bodyPost_ret (results_row1 rfl _ _ w.heap.size (gS.cells (.slice aoC chF.length capC) (.slice (some ⟨w5.heap.size,0,none⟩) 4 4)) _ rfl hrg Tryz.underlying29 rfl groupSize) rfl ?_
 have kk:Keeps w5 (w5.alloc (.cells (List.flatMap EE.cells [⟨entS n1S eurS false,.slice p1 14 q1,.slice p2 14 q2⟩,⟨entS n2S eurS false,.slice p3 14 q3,.slice p4 14 q4⟩,⟨entS n3S usdS false,.slice p5 14 q5,.slice p6 14 q6⟩,⟨entS n4S usdS true,.slice p7 14 q7,.slice p8 14 q8⟩]).toArray 106)):=(Keeps.refl w5).alloc _
 have k1:Keeps w1 w5:=D2.out.trans (D3.out.trans (D4.out.trans D5.out))
 have k2:Keeps w2 w5:=D3.out.trans (D4.out.trans D5.out)
 have k3:Keeps w3 w5:=D4.out.trans D5.out
 refine ⟨aoC,capC,bC,some ⟨w5.heap.size,0,none⟩,4,w5.heap.size,rfl,⟨HC1.out.2,sl_setCells (Sl.keeps HC1.out.1 (k1.trans kk)) (by have:=HC1.out.2;omega) _ _,hbw,rfl,rfl,p1,p2,p3,p4,p5,p6,p7,p8,q1,q2,q3,q4,q5,q6,q7,q8,(F2.out.keeps (k2.trans kk)).set (Nat.le_refl _) _,(F3.out.keeps (k3.trans kk)).set (Nat.le_refl _) _,(F4.out.keeps (D5.out.trans kk)).set (Nat.le_refl _) _,(F5.out.keeps kk).set (Nat.le_refl _) _,sl_setCells hsl (by omega) _ _⟩,keeps_setCellsP (Nat.le_refl _) _ _ _ (HK0.out.trans (K5.out.trans kk))⟩
end Go.Proofs.YtoaidbhiciaeaaaGreat

end
section
namespace Go.Proofs.YtoaidbhiciaeaaaGreat
open Go.RowKit
def fewEn (e:Ent):Bool:=decide ((e.chart.length:Int)≤40) && (decide ((e.links.length:Int)≤60) && decide (wrap64 ((e.name.size:Int)+(e.cur.size:Int))≤60))
def fewG (g:Grp):Bool:=g.ents.all fewEn && (decide ((g.chart.length:Int)≤60) && (decide ((g.ents.length:Int)≤14) && decide ((g.cur.size:Int)≤20)))
theorem fewG_ok {g:Grp} (h:fewG g=true) (ho:g.OkG):g.Ok:=by
 unfold fewG at h
 simp only [Bool.and_eq_true,List.all_eq_true,decide_eq_true_eq] at h
 obtain ⟨h1,h2,h3,_⟩:=h
 obtain ⟨o1,o2,o3,o4⟩:=ho
 refine ⟨o1,by omega,o2,o3,fun e he=>?_,by omega⟩
 have he2:=h1 e he
 unfold fewEn at he2
 simp only [Bool.and_eq_true,decide_eq_true_eq] at he2
 obtain ⟨p1,p2,p3,p4⟩:=o4 e he
 exact ⟨p1,p2,by omega,by omega,p3,p4⟩
set_option maxRecDepth 100000 in
theorem fewG_any (g:Grp) (aoC:Option Addr) (capC bC oC:Nat) (aoE:Option Addr) (capE bE oE:Nat) (w:World) (H:Accs w aoC g.chart capC bC oC) (HE:EntsV w aoE g.ents capE bE oE) :
  Calls Tryz.prog 23 #[.agg #[.string g.cur,.int .i64 g.y,.int .i64 g.m,.int .i64 g.n,.slice aoC g.chart.length capC,.int .i64 g.rl.r0,.int .i64 g.rl.r1,.int .i64 g.rl.r2,.int .i64 g.rl.r3,.int .i64 g.rl.r4,.int .i64 g.rl.r5,.int .i64 g.rl.r6,.int .i64 g.rl.r7,.int .i64 g.rl.r8,.int .i64 g.rl.r9,.int .i64 g.rl.r10,.int .i64 g.rl.r11,.int .i64 g.rl.r12,.int .i64 g.rl.r13,.int .i64 g.rl.r14,.slice aoE g.ents.length capE]] w fun r w'=>r=.returned (.bool (fewG g))∧Keeps w w':=by
 have hcapE:=HE.capE
 have hleE:=HE.leE
 have hcapC:=Sl.cap H
 have hrb:RowB (w.alloc (.cells #[.string g.cur,.int .i64 g.y,.int .i64 g.m,.int .i64 g.n,.slice aoC g.chart.length capC,.int .i64 g.rl.r0,.int .i64 g.rl.r1,.int .i64 g.rl.r2,.int .i64 g.rl.r3,.int .i64 g.rl.r4,.int .i64 g.rl.r5,.int .i64 g.rl.r6,.int .i64 g.rl.r7,.int .i64 g.rl.r8,.int .i64 g.rl.r9,.int .i64 g.rl.r10,.int .i64 g.rl.r11,.int .i64 g.rl.r12,.int .i64 g.rl.r13,.int .i64 g.rl.r14,.slice aoE g.ents.length capE] 29)) w.heap.size 29 (g.cells (.slice aoC g.chart.length capC) (.slice aoE g.ents.length capE)):=RowB.new w _ _
 have hk0:Keeps w (w.alloc (.cells #[.string g.cur,.int .i64 g.y,.int .i64 g.m,.int .i64 g.n,.slice aoC g.chart.length capC,.int .i64 g.rl.r0,.int .i64 g.rl.r1,.int .i64 g.rl.r2,.int .i64 g.rl.r3,.int .i64 g.rl.r4,.int .i64 g.rl.r5,.int .i64 g.rl.r6,.int .i64 g.rl.r7,.int .i64 g.rl.r8,.int .i64 g.rl.r9,.int .i64 g.rl.r10,.int .i64 g.rl.r11,.int .i64 g.rl.r12,.int .i64 g.rl.r13,.int .i64 g.rl.r14,.slice aoE g.ents.length capE] 29)):=(Keeps.refl w).alloc _
 obtain ⟨W1,hW1⟩:∃ W1,w.alloc (.cells #[.string g.cur,.int .i64 g.y,.int .i64 g.m,.int .i64 g.n,.slice aoC g.chart.length capC,.int .i64 g.rl.r0,.int .i64 g.rl.r1,.int .i64 g.rl.r2,.int .i64 g.rl.r3,.int .i64 g.rl.r4,.int .i64 g.rl.r5,.int .i64 g.rl.r6,.int .i64 g.rl.r7,.int .i64 g.rl.r8,.int .i64 g.rl.r9,.int .i64 g.rl.r10,.int .i64 g.rl.r11,.int .i64 g.rl.r12,.int .i64 g.rl.r13,.int .i64 g.rl.r14,.slice aoE g.ents.length capE] 29)=W1:=⟨_,rfl⟩
 rw [hW1] at hk0 hrb
 have HK1:=Lib.hid hk0
 have HGC:Hid (∀ W,Keeps W1 W→W.cell? ⟨w.heap.size,0,none⟩=some (.string g.cur)∧W.cell? ⟨w.heap.size,4,none⟩=some (.slice aoC g.chart.length capC)∧W.cell? ⟨w.heap.size,20,none⟩=some (.slice aoE g.ents.length capE)):=Lib.hid (fun W hW=>⟨hW.cell (hrb.cell 0 _ rfl),hW.cell (hrb.cell 4 _ rfl),hW.cell (hrb.cell 20 _ rfl)⟩)
 obtain ⟨f0,f4,f20⟩:=HGC.out _ (Keeps.refl W1)
 have HHE:=Lib.hid HE
 clear H HE hk0 hrb
 go_enter Tryz.func23,Tryz.ntmps23
 go_upto_region 1 with fail
 try rw [hW1]
 clear hW1 f0 f4 f20
 go_wp2_with fail
 go_loopw [3] (fun vi wr=>∃ k:Nat,k≤g.ents.length∧vi=.int .i64 k∧Hid (Keeps W1 wr)∧Hid (∀ e∈g.ents.take k,fewEn e=true)) (fun vi _=>g.ents.length - (intOf vi).toNat)
 case atStart=>exact ⟨0,Nat.zero_le _,rfl,Lib.hid (Keeps.refl _),Lib.hid (by simp)⟩
 case round=>
  obtain ⟨k,hk,rfl,HW,HA⟩:=hrel
  obtain ⟨f0,f4,f20⟩:=HGC.out _ HW.out
  have hzf:=World.block_lt_of_cell? _ _ f0
  simp only at hzf
  by_cases hlt:k < g.ents.length
  ·have hix:=HHE.out.atE k hlt
   obtain ⟨aoX,capX,bX,oX,aoL,capL,bL,oL,hX,hL,hr⟩:=(HHE.out.keeps (HK1.out.trans HW.out)).ent k hlt
   have c0:=hr 0 _ rfl
   have c1:=hr 1 _ rfl
   have c2:=hr 2 _ rfl
   have c3:=hr 3 _ rfl
   have c4:=hr 4 _ rfl
   rw [Nat.add_zero] at c0
   have hxc:=Sl.cap hX
   have hxl:=Sl.cap hL
   obtain ⟨q1,h1⟩:∃ q,decide ((g.ents[k].chart.length:Int)≤40)=q:=⟨_,rfl⟩
   obtain ⟨q2,h2⟩:∃ q,decide ((g.ents[k].links.length:Int)≤60)=q:=⟨_,rfl⟩
   obtain ⟨q3,h3⟩:∃ q,decide (wrap64 ((g.ents[k].name.size:Int)+(g.ents[k].cur.size:Int))≤60)=q:=⟨_,rfl⟩
   cases q1 with
   | false=>
    have e1:decide ((40:Int) < (g.ents[k].chart.length:Int))=true:=by simpa using h1
    have HBD:Hid (fewG g=false):=Lib.hid (by
     unfold fewG
     rw [all_bad hlt (show fewEn g.ents[k]=false by unfold fewEn;rw [h1];rfl)]
     rfl)
    clear hr
    go_wp2_with fail
    go_ret
    rw [HBD.out]
    exact ⟨rfl,HK1.out.trans (HW.out.alloc _)⟩
   | true=>
    have e1:decide ((40:Int) < (g.ents[k].chart.length:Int))=false:=by simpa using h1
    cases q2 with
    | false=>
     have e2:decide ((60:Int) < (g.ents[k].links.length:Int))=true:=by simpa using h2
     have HBD:Hid (fewG g=false):=Lib.hid (by
      unfold fewG
      rw [all_bad hlt (show fewEn g.ents[k]=false by unfold fewEn;rw [h2];simp)]
      rfl)
     clear hr
     go_wp2_with fail
     go_ret
     rw [HBD.out]
     exact ⟨rfl,HK1.out.trans (HW.out.alloc _)⟩
    | true=>
     have e2:decide ((60:Int) < (g.ents[k].links.length:Int))=false:=by simpa using h2
     cases q3 with
     | false=>
      have e3:decide ((60:Int) < wrap64 ((g.ents[k].name.size:Int)+(g.ents[k].cur.size:Int)))=true:=by simpa using h3
      have HBD:Hid (fewG g=false):=Lib.hid (by
       unfold fewG
       rw [all_bad hlt (show fewEn g.ents[k]=false by unfold fewEn;rw [h3];simp)]
       rfl)
      clear hr
      go_wp2_with fail
      go_ret
      rw [HBD.out]
      exact ⟨rfl,HK1.out.trans (HW.out.alloc _)⟩
     | true=>
      have e3:decide ((60:Int) < wrap64 ((g.ents[k].name.size:Int)+(g.ents[k].cur.size:Int)))=false:=by simpa using h3
      have HA2:Hid (∀ e∈g.ents.take (k+1),fewEn e=true):=Lib.hid (fun e he=>by
       rw [take_snoc _ k hlt] at he
       rcases List.mem_append.1 he with h | h
       ·exact HA.out e h
       ·rw [List.mem_singleton] at h
        rw [h]
        unfold fewEn
        rw [h1,h2,h3];rfl)
      clear h1 h2 h3 hr
      go_wp2_with fail
      go_roundw
      case rel=>exact ⟨k+1,by omega,by go_num,Lib.hid (HW.out.alloc _),HA2⟩
      case measure=>simp [intOf];omega
  ·obtain rfl:k=g.ents.length:=by omega
   have HAL:Hid (g.ents.all fewEn=true):=Lib.hid (by
    rw [List.all_eq_true]
    have:=HA.out
    rwa [List.take_length] at this)
   obtain ⟨q1,h1⟩:∃ q,decide ((g.chart.length:Int)≤60)=q:=⟨_,rfl⟩
   obtain ⟨q2,h2⟩:∃ q,decide ((g.ents.length:Int)≤14)=q:=⟨_,rfl⟩
   obtain ⟨q3,h3⟩:∃ q,decide ((g.cur.size:Int)≤20)=q:=⟨_,rfl⟩
   have HV:Hid (fewG g=(q1 && (q2 && q3))):=Lib.hid (by unfold fewG;rw [HAL.out,h1,h2,h3];rfl)
   cases q1 <;> cases q2 <;> cases q3 <;> (go_wp2_with fail;go_ret;rw [HV.out];exact ⟨rfl,HK1.out.trans HW.out⟩)
def amtF (x:Itm):Bool:=decide (x.amt≤1125899906842624) && decide (-1125899906842624≤x.amt)
def fewL (g:Grp) (es:List JV) (hs:List Hol) (ms:List MV) (items:List Itm):Bool:=items.all amtF && (fewG g && (fewB es ms && (decide ((hs.length:Int)≤30) && decide ((items.length:Int)≤150))))
set_option maxRecDepth 100000 in
theorem lfew_any (bv:List Value) (g:Grp) (es:List JV) (hs:List Hol) (ms:List MV) (items:List Itm) (ao:Option Addr) (cap b o:Nat) (w:World) (H:BkG w bv g es hs ms) (HI:Recs w 7 Itm.cells ao items cap b o) :
  Calls Tryz.prog 10 #[.agg bv.toArray,.slice ao items.length cap] w fun e w'=>e=.returned (.bool (fewL g es hs ms items))∧Keeps w w':=by
 have HBL:=Lib.hid H.bks.len
 obtain ⟨aoC,capC,bC,oC,aoE,capE,bE,oE,hgc,hC,hE⟩:=H.grp
 obtain ⟨aoH,capH,bH,oH,hb23,hH⟩:=H.hol
 have hcapI:=Sl.cap HI
 have hleI:=Sl.le HI
 have hcapH:=Sl.cap hH
 have hrg:=box_range w bv 36
 have hk0:Keeps w (w.alloc (.cells bv.toArray 36)):=(Keeps.refl w).alloc _
 obtain ⟨W1,hW1⟩:∃ W1,w.alloc (.cells bv.toArray 36)=W1:=⟨_,rfl⟩
 rw [hW1] at hrg hk0
 have HK1:=Lib.hid hk0
 have HRG:Hid (∀ W,Keeps W1 W→W.rangeAt w.heap.size 0 bv):=Lib.hid (fun W hk=>range_keeps hrg hk)
 have HGG:Hid (∀ W,Keeps W1 W→W.rangeAt w.heap.size 0 (g.cells (.slice aoC g.chart.length capC) (.slice aoE g.ents.length capE))):=Lib.hid (fun W hk j v hv=>range_keeps hrg hk j v (hgc j v hv))
 have HWK:Hid (∀ W,Keeps W1 W→W.cell? ⟨w.heap.size,23,none⟩=some (.slice aoH hs.length capH)):=Lib.hid (fun W hk=>by
  have:=range_keeps hrg hk 23 _ hb23
  rwa [Nat.zero_add] at this)
 obtain ⟨q1,h1⟩:∃ q,fewG g=q:=⟨_,rfl⟩
 obtain ⟨q2,h2⟩:∃ q,fewB es ms=q:=⟨_,rfl⟩
 have HFG:Hid (∀ W,Keeps w W→Calls Tryz.prog 23 #[.agg #[.string g.cur,.int .i64 g.y,.int .i64 g.m,.int .i64 g.n,.slice aoC g.chart.length capC,.int .i64 g.rl.r0,.int .i64 g.rl.r1,.int .i64 g.rl.r2,.int .i64 g.rl.r3,.int .i64 g.rl.r4,.int .i64 g.rl.r5,.int .i64 g.rl.r6,.int .i64 g.rl.r7,.int .i64 g.rl.r8,.int .i64 g.rl.r9,.int .i64 g.rl.r10,.int .i64 g.rl.r11,.int .i64 g.rl.r12,.int .i64 g.rl.r13,.int .i64 g.rl.r14,.slice aoE g.ents.length capE]] W fun r w'=>r=.returned (.bool q1)∧Keeps W w'):=Lib.hid (fun W hk=>by
  have:=fewG_any g aoC capC bC oC aoE capE bE oE W (hC.keeps hk) (hE.keeps hk)
  rw [h1] at this
  exact this)
 have HFB:Hid (∀ W,Keeps w W→Calls Tryz.prog 24 #[.agg bv.toArray] W fun r w'=>r=.returned (.bool q2)∧Keeps W w'):=Lib.hid (fun W hk=>by
  have:=few_any bv es ms W (H.bks.keeps hk)
  rw [h2] at this
  exact this)
 have HII:=Lib.hid HI
 have HQ1:=Lib.hid h1
 have HQ2:=Lib.hid h2
 clear H HI hC hE hH hrg hk0 hgc hb23 h1 h2
 go_enter Tryz.func10,Tryz.ntmps10
 go_upto_region 1 with fail
 try rw [hW1]
 clear hW1
 go_wp2_with fail
 go_loopw [8] (fun vi wr=>∃ k:Nat,k≤items.length∧vi=.int .i64 k∧Hid (Keeps W1 wr)∧Hid (∀ x∈items.take k,amtF x=true)) (fun vi _=>items.length - (intOf vi).toNat)
 case atStart=>exact ⟨0,Nat.zero_le _,rfl,Lib.hid (Keeps.refl _),Lib.hid (by simp)⟩
 case round=>
  obtain ⟨k,hk,rfl,HW,HA⟩:=hrel
  by_cases hlt:k < items.length
  ·have hr:=HII.out.keeps (HK1.out.trans HW.out)
   have hix:=Sl.at hr Tryz.underlying37 Tryz.sizeOf53 k hlt
   obtain ⟨x,hx⟩:∃ x,items[k]=x:=⟨_,rfl⟩
   have c6:=hr.cell Itm.len k hlt 6 (.int .i64 x.amt) (by rw [hx];rfl)
   by_cases g1:1125899906842624 < x.amt
   ·have e1:decide ((1125899906842624:Int) < x.amt)=true:=decide_eq_true g1
    have HBD:Hid (fewL g es hs ms items=false):=Lib.hid (by
     unfold fewL
     rw [all_bad hlt (show amtF items[k]=false by unfold amtF;rw [hx];rw [decide_eq_false (by omega)];rfl)]
     rfl)
    clear hr hx
    go_wp2_with fail
    go_ret
    rw [HBD.out]
    exact ⟨rfl,HK1.out.trans HW.out⟩
   have e1:decide ((1125899906842624:Int) < x.amt)=false:=decide_eq_false g1
   by_cases g2:x.amt < -1125899906842624
   ·have e2:decide (x.amt < (-1125899906842624:Int))=true:=decide_eq_true g2
    have HBD:Hid (fewL g es hs ms items=false):=Lib.hid (by
     unfold fewL
     rw [all_bad hlt (show amtF items[k]=false by unfold amtF;rw [hx];rw [decide_eq_false (show ¬ -1125899906842624≤x.amt by omega)];simp)]
     rfl)
    clear hr hx
    go_wp2_with fail
    go_ret
    rw [HBD.out]
    exact ⟨rfl,HK1.out.trans HW.out⟩
   have e2:decide (x.amt < (-1125899906842624:Int))=false:=decide_eq_false g2
   have HA2:Hid (∀ q∈items.take (k+1),amtF q=true):=Lib.hid (fun q hq=>by
    rw [take_snoc _ k hlt,hx] at hq
    rcases List.mem_append.1 hq with h | h
    ·exact HA.out q h
    ·rw [List.mem_singleton] at h
     subst h
     unfold amtF
     rw [decide_eq_true (by omega),decide_eq_true (by omega)];rfl)
   clear hr hx g1 g2
   go_wp2_with fail
   go_roundw
   case rel=>exact ⟨k+1,by omega,by go_num,HW,HA2⟩
   case measure=>simp [intOf];omega
  ·obtain rfl:k=items.length:=by omega
   have HAL:Hid (items.all amtF=true):=Lib.hid (by
    rw [List.all_eq_true]
    have:=HA.out
    rwa [List.take_length] at this)
   obtain ⟨q3,h3⟩:∃ q,decide ((hs.length:Int)≤30)=q:=⟨_,rfl⟩
   obtain ⟨q4,h4⟩:∃ q,decide ((items.length:Int)≤150)=q:=⟨_,rfl⟩
   have HV:Hid (fewL g es hs ms items=(q1 && (q2 && (q3 && q4)))):=Lib.hid (by unfold fewL;rw [HAL.out,HQ1.out,HQ2.out,h3,h4];rfl)
   have hzw:=HW.out.size
   cases q1 with
   | false=>
    go_wp2_with (first | (refine wpList_load_mid rfl 29 _ rfl w.heap.size 0 rfl (g.cells (.slice aoC g.chart.length capC) (.slice aoE g.ents.length capE)) _ (HGG.out _ HW.out) Tryz.underlying29 rfl groupSize ?_) | (go_at_call 23;(refine (HFG.out _ (HK1.out.trans HW.out)).mono ?_);rintro e1 w1 ⟨rfl,hk1⟩;have KF:=Lib.hid (HW.out.trans hk1);have f23:=(HWK.out _ (HW.out.trans hk1));have hz3:=World.block_lt_of_cell? _ _ f23;clear hk1))
    go_ret
    rw [HV.out]
    exact ⟨rfl,HK1.out.trans KF.out⟩
   | true=>
    cases q2 with
    | false=>
     go_wp2_with (first | (refine wpList_load_mid rfl 29 _ rfl w.heap.size 0 rfl (g.cells (.slice aoC g.chart.length capC) (.slice aoE g.ents.length capE)) _ (HGG.out _ HW.out) Tryz.underlying29 rfl groupSize ?_) | (go_at_call 23;(refine (HFG.out _ (HK1.out.trans HW.out)).mono ?_);rintro e1 w1 ⟨rfl,hk1⟩;have KF:=Lib.hid (HW.out.trans hk1);have f23:=(HWK.out _ (HW.out.trans hk1));have hz3:=World.block_lt_of_cell? _ _ f23;clear hk1) | (refine wpList_rowG 36 _ rfl rfl w.heap.size bv _ rfl (HRG.out _ KF.out) Tryz.underlying36 rfl (by rw [HBL.out];exact booksSize) ?_) | (go_at_call 24;(refine (HFB.out _ (HK1.out.trans KF.out)).mono ?_);rintro e3 w3 ⟨rfl,hk3⟩;have KG:=Lib.hid (KF.out.trans hk3);clear f23;have f23:=(HWK.out _ KG.out);clear hk3))
     go_ret
     rw [HV.out]
     exact ⟨rfl,HK1.out.trans KG.out⟩
    | true=>
     cases q3 <;> cases q4 <;> (go_wp2_with (first | (refine wpList_load_mid rfl 29 _ rfl w.heap.size 0 rfl (g.cells (.slice aoC g.chart.length capC) (.slice aoE g.ents.length capE)) _ (HGG.out _ HW.out) Tryz.underlying29 rfl groupSize ?_) | (go_at_call 23;(refine (HFG.out _ (HK1.out.trans HW.out)).mono ?_);rintro e1 w1 ⟨rfl,hk1⟩;have KF:=Lib.hid (HW.out.trans hk1);have f23:=(HWK.out _ (HW.out.trans hk1));have hz3:=World.block_lt_of_cell? _ _ f23;clear hk1) | (refine wpList_rowG 36 _ rfl rfl w.heap.size bv _ rfl (HRG.out _ KF.out) Tryz.underlying36 rfl (by rw [HBL.out];exact booksSize) ?_) | (go_at_call 24;(refine (HFB.out _ (HK1.out.trans KF.out)).mono ?_);rintro e3 w3 ⟨rfl,hk3⟩;have KG:=Lib.hid (KF.out.trans hk3);clear f23;have f23:=(HWK.out _ KG.out);clear hk3));go_ret;rw [HV.out];exact ⟨rfl,HK1.out.trans KG.out⟩)
theorem fewL_ok {bv:List Value} {g:Grp} {es:List JV} {hs:List Hol} {ms:List MV} {items:List Itm} {w:World} (h:fewL g es hs ms items=true) (H:BkG w bv g es hs ms) (ho:g.OkG) (hh:∀ x∈hs,x.Ok) (hid:∀ m∈ms,I64 m.x.id) (hi:∀ x∈items,x.OkI)
  (hsz:∀ m∈ms,m.x.left.length+m.x.right.length≤9223372036854775807):SmallB g es hs ms items∧(∀ x∈items,x.OkA)∧es.length≤40∧ms.length≤20∧∀ m∈ms,m.x.left.length+m.x.right.length≤20:=by
 unfold fewL at h
 simp only [Bool.and_eq_true,List.all_eq_true,decide_eq_true_eq] at h
 obtain ⟨h1,h2,h3,h4,h5⟩:=h
 obtain ⟨f1,f2,f3,f4⟩:=fewB_spec h3
 have hss:∀ m∈ms,m.x.left.length+m.x.right.length≤20:=fun m hm=>by
  have:=f4 m hm
  rw [IntWalk.wrap64_in _ (by have:=hsz m hm;omega)] at this
  omega
 refine ⟨⟨fewG_ok h2 ho,f1,by omega,hh,fun m hm=>by have:=hss m hm;omega,hid,by omega,by omega,fun x hx=>(hi x hx).1⟩,fun x hx=>⟨(hi x hx).2,?_⟩,f2,f3,hss⟩
 have:=h1 x hx
 unfold amtF at this
 simp only [Bool.and_eq_true,decide_eq_true_eq] at this
 omega
end Go.Proofs.YtoaidbhiciaeaaaGreat

end
