/- Walks and plain facts that the claim rests on (CalX). No condition. -/
import Derived.Test.YtoaidbhiciaeaaaGreatPo04
set_option linter.unusedSimpArgs false
set_option linter.unusedVariables false
set_option maxHeartbeats 16000000
section
namespace Go.Proofs.YtoaidbhiciaeaaaGreat
open Go.RowKit
def frsR (y m p:Int):Int × Int:=if 1900≤y∧y≤2199∧1≤m∧m≤12 then fdE (12 * y+m - 1+p) else (0,2)
theorem firstR_any (y m n p:Int) (h5:0≤p) (h6:p≤200) (w:World) :
  Calls Tryz.prog 93 #[.agg #[.int .i64 y,.int .i64 m,.int .i64 n],.int .i64 p] w fun e w'=>e=.returned (.tuple #[.int .i64 (frsR y m p).1,.int .i64 (frsR y m p).2])∧Keeps w w':=by
 by_cases hc:1900≤y∧y≤2199∧1≤m∧m≤12
 ·have hF:frsR y m p=fdE (12 * y+m - 1+p):=if_pos hc
  rw [hF]
  obtain ⟨h1,h2,h3,h4⟩:=hc
  have HO:Hid (∀ W,Calls Tryz.prog 140 #[.int .i64 y,.int .i64 m,.int .i64 1] W fun e w'=>e=.returned (.tuple #[.int .i64 (begF y+mofF y (m - 1).toNat),.int .i64 0])∧Keeps W w'):=Lib.hid (fun W=>by have:=ofR_any y m W;rw [ofF_one h1 h2 h3 h4] at this;exact this)
  have HA:Hid (∀ W,Calls Tryz.prog 141 #[.int .i64 (begF y+mofF y (m - 1).toNat),.int .i64 p] W fun e w'=>e=.returned (.tuple #[.int .i64 (fdE (12 * y+m - 1+p)).1,.int .i64 (fdE (12 * y+m - 1+p)).2])∧Keeps W w'):=Lib.hid (fun W=>by
   have:=addR_any y (m - 1).toNat p h1 h2 (by omega) h5 h6 W
   rw [show 12 * y+(((m - 1).toNat:Nat):Int)+p=12 * y+m - 1+p from by omega] at this
   exact this)
  obtain ⟨⟨r1,r2⟩,hr⟩:∃ r,fdE (12 * y+m - 1+p)=r:=⟨_,rfl⟩
  obtain ⟨d,hd⟩:∃ d,begF y+mofF y (m - 1).toNat=d:=⟨_,rfl⟩
  rw [hd] at HO HA
  rw [hr] at HA ⊢
  clear hr hd hF
  go_enter Tryz.func93,Tryz.ntmps93
  go_wp2_with (first | (go_at_call 140;refine (HO.out _).mono ?_;rintro e w1 ⟨rfl,hk1⟩) | (go_at_call 141;refine (HA.out _).mono ?_;rintro e w2 ⟨rfl,hk2⟩))
  go_ret2
  exact ⟨rfl,((Keeps.refl w).alloc _).trans (hk1.trans hk2)⟩
 ·have hF:frsR y m p=(0,2):=if_neg hc
  rw [hF]
  have HO:Hid (∀ W,Calls Tryz.prog 140 #[.int .i64 y,.int .i64 m,.int .i64 1] W fun e w'=>e=.returned (.tuple #[.int .i64 0,.int .i64 2])∧Keeps W w'):=Lib.hid (fun W=>by have:=ofR_any y m W;rw [ofF_bad (by omega)] at this;exact this)
  clear hF hc
  go_enter Tryz.func93,Tryz.ntmps93
  go_wp2_with (go_at_call 140;refine (HO.out _).mono ?_;rintro e w1 ⟨rfl,hk1⟩)
  go_ret2
  exact ⟨rfl,((Keeps.refl w).alloc _).trans hk1⟩
theorem validR_any (y m n:Int) (w:World):Calls Tryz.prog 131 #[.agg #[.int .i64 y,.int .i64 m,.int .i64 n]] w fun e w'=>e=.returned (.bool (calB y m n))∧Keeps w w':=by
 by_cases h3:n < 1
 ·have HB:Hid (calB y m n=false):=Lib.hid (decide_eq_false (by omega))
  have e3:decide (n < 1)=true:=decide_eq_true h3
  clear h3
  go_enter Tryz.func131,Tryz.ntmps131
  go_wp2_with fail
  go_ret
  exact ⟨by rw [HB.out];rfl,(Keeps.refl w).alloc _⟩
 by_cases h4:120 < n
 ·have HB:Hid (calB y m n=false):=Lib.hid (decide_eq_false (by omega))
  have e3:decide (n < 1)=false:=decide_eq_false h3
  have e4:decide (120 < n)=true:=decide_eq_true h4
  clear h3 h4
  go_enter Tryz.func131,Tryz.ntmps131
  go_wp2_with fail
  go_ret
  exact ⟨by rw [HB.out];rfl,(Keeps.refl w).alloc _⟩
 have e3:decide (n < 1)=false:=decide_eq_false h3
 have e4:decide (120 < n)=false:=decide_eq_false h4
 have HF:Hid (∀ W,Calls Tryz.prog 93 #[.agg #[.int .i64 y,.int .i64 m,.int .i64 n],.int .i64 (n - 1)] W fun e w'=>e=.returned (.tuple #[.int .i64 (frsR y m (n - 1)).1,.int .i64 (frsR y m (n - 1)).2])∧Keeps W w'):=Lib.hid (fun W=>firstR_any y m n (n - 1) (by omega) (by omega) W)
 have hcb:calB y m n=((frsR y m (n - 1)).2 == 0):=by
  unfold calB frsR
  by_cases hc:1900≤y∧y≤2199∧1≤m∧m≤12
  ·rw [if_pos hc]
   unfold fdE
   by_cases h7:12 * y+m - 1+(n - 1) < 26400
   ·rw [if_pos h7,decide_eq_true (by omega)];rfl
   ·rw [if_neg h7,decide_eq_false (by omega)];rfl
  ·rw [if_neg hc,decide_eq_false (by omega)];rfl
 obtain ⟨⟨r1,r2⟩,hr⟩:∃ r,frsR y m (n - 1)=r:=⟨_,rfl⟩
 rw [hr] at HF hcb
 have HB:=Lib.hid hcb
 have hn1:1≤n∧n≤120:=by omega
 clear hr hcb h3 h4
 go_enter Tryz.func131,Tryz.ntmps131
 go_wp2_with (go_at_call 93;refine (HF.out _).mono ?_;rintro e w1 ⟨rfl,hk1⟩)
 go_ret
 exact ⟨by rw [HB.out];rfl,((Keeps.refl w).alloc _).trans hk1⟩
theorem chkP_any (y m n p:Int) (w:World):Calls Tryz.prog 74 #[.agg #[.int .i64 y,.int .i64 m,.int .i64 n],.int .i64 p] w fun e w'=>e=.returned (.int .i64 (chkF y m n p))∧Keeps w w':=by
 have HV:Hid (∀ W,Calls Tryz.prog 63 #[.agg #[.int .i64 y,.int .i64 m,.int .i64 n]] W fun e w'=>e=.returned (.bool (calB y m n))∧Keeps W w'):=Lib.hid (fun W=>validC_any y m n W)
 cases hv:calB y m n with
 | false=>
  have HB:Hid (chkF y m n p=1):=Lib.hid (if_neg (by rw [hv];decide))
  rw [hv] at HV
  clear hv
  go_enter Tryz.func74,Tryz.ntmps74
  go_wp2_with (go_at_call 63;refine (HV.out _).mono ?_;rintro e w1 ⟨rfl,hk1⟩;have c0:=hk1.cell (p:=⟨w.heap.size,0,none⟩) (v:=.int .i64 y) (by go_simp);have c1:=hk1.cell (p:=⟨w.heap.size,1,none⟩) (v:=.int .i64 m) (by go_simp);have c2:=hk1.cell (p:=⟨w.heap.size,2,none⟩) (v:=.int .i64 n) (by go_simp);have cz:=World.block_lt_of_cell? _ _ c0)
  go_ret
  exact ⟨by rw [HB.out];rfl,((Keeps.refl w).alloc _).trans hk1⟩
 | true=>
  have hC:chkF y m n p=if p < 0∨n≤p then 2 else 0:=if_pos hv
  rw [hv] at HV
  clear hv
  by_cases h1:p < 0
  ·have HB:Hid (chkF y m n p=2):=Lib.hid (by rw [hC,if_pos (.inl h1)])
   have e1:decide (p < 0)=true:=decide_eq_true h1
   clear hC h1
   go_enter Tryz.func74,Tryz.ntmps74
   go_wp2_with (go_at_call 63;refine (HV.out _).mono ?_;rintro e w1 ⟨rfl,hk1⟩;have c0:=hk1.cell (p:=⟨w.heap.size,0,none⟩) (v:=.int .i64 y) (by go_simp);have c1:=hk1.cell (p:=⟨w.heap.size,1,none⟩) (v:=.int .i64 m) (by go_simp);have c2:=hk1.cell (p:=⟨w.heap.size,2,none⟩) (v:=.int .i64 n) (by go_simp);have cz:=World.block_lt_of_cell? _ _ c0)
   go_ret
   exact ⟨by rw [HB.out];rfl,((Keeps.refl w).alloc _).trans hk1⟩
  ·have e1:decide (p < 0)=false:=decide_eq_false h1
   by_cases h2:n≤p
   ·have HB:Hid (chkF y m n p=2):=Lib.hid (by rw [hC,if_pos (.inr h2)])
    have e2:decide (n≤p)=true:=decide_eq_true h2
    clear hC h1 h2
    go_enter Tryz.func74,Tryz.ntmps74
    go_wp2_with (go_at_call 63;refine (HV.out _).mono ?_;rintro e w1 ⟨rfl,hk1⟩;have c0:=hk1.cell (p:=⟨w.heap.size,0,none⟩) (v:=.int .i64 y) (by go_simp);have c1:=hk1.cell (p:=⟨w.heap.size,1,none⟩) (v:=.int .i64 m) (by go_simp);have c2:=hk1.cell (p:=⟨w.heap.size,2,none⟩) (v:=.int .i64 n) (by go_simp);have cz:=World.block_lt_of_cell? _ _ c0)
    go_ret
    exact ⟨by rw [HB.out];rfl,((Keeps.refl w).alloc _).trans hk1⟩
   ·have HB:Hid (chkF y m n p=0):=Lib.hid (by rw [hC,if_neg (by omega)])
    have e2:decide (n≤p)=false:=decide_eq_false h2
    clear hC h1 h2
    go_enter Tryz.func74,Tryz.ntmps74
    go_wp2_with (go_at_call 63;refine (HV.out _).mono ?_;rintro e w1 ⟨rfl,hk1⟩;have c0:=hk1.cell (p:=⟨w.heap.size,0,none⟩) (v:=.int .i64 y) (by go_simp);have c1:=hk1.cell (p:=⟨w.heap.size,1,none⟩) (v:=.int .i64 m) (by go_simp);have c2:=hk1.cell (p:=⟨w.heap.size,2,none⟩) (v:=.int .i64 n) (by go_simp);have cz:=World.block_lt_of_cell? _ _ c0)
    go_ret
    exact ⟨by rw [HB.out];rfl,((Keeps.refl w).alloc _).trans hk1⟩
theorem chkR_any (y m n p:Int) (w:World):Calls Tryz.prog 91 #[.agg #[.int .i64 y,.int .i64 m,.int .i64 n],.int .i64 p] w fun e w'=>e=.returned (.int .i64 (chkF y m n p))∧Keeps w w':=by
 have HV:Hid (∀ W,Calls Tryz.prog 131 #[.agg #[.int .i64 y,.int .i64 m,.int .i64 n]] W fun e w'=>e=.returned (.bool (calB y m n))∧Keeps W w'):=Lib.hid (fun W=>validR_any y m n W)
 cases hv:calB y m n with
 | false=>
  have HB:Hid (chkF y m n p=1):=Lib.hid (if_neg (by rw [hv];decide))
  rw [hv] at HV
  clear hv
  go_enter Tryz.func91,Tryz.ntmps91
  go_wp2_with (go_at_call 131;refine (HV.out _).mono ?_;rintro e w1 ⟨rfl,hk1⟩;have c0:=hk1.cell (p:=⟨w.heap.size,0,none⟩) (v:=.int .i64 y) (by go_simp);have c1:=hk1.cell (p:=⟨w.heap.size,1,none⟩) (v:=.int .i64 m) (by go_simp);have c2:=hk1.cell (p:=⟨w.heap.size,2,none⟩) (v:=.int .i64 n) (by go_simp);have cz:=World.block_lt_of_cell? _ _ c0)
  go_ret
  exact ⟨by rw [HB.out];rfl,((Keeps.refl w).alloc _).trans hk1⟩
 | true=>
  have hC:chkF y m n p=if p < 0∨n≤p then 2 else 0:=if_pos hv
  rw [hv] at HV
  clear hv
  by_cases h1:p < 0
  ·have HB:Hid (chkF y m n p=2):=Lib.hid (by rw [hC,if_pos (.inl h1)])
   have e1:decide (p < 0)=true:=decide_eq_true h1
   clear hC h1
   go_enter Tryz.func91,Tryz.ntmps91
   go_wp2_with (go_at_call 131;refine (HV.out _).mono ?_;rintro e w1 ⟨rfl,hk1⟩;have c0:=hk1.cell (p:=⟨w.heap.size,0,none⟩) (v:=.int .i64 y) (by go_simp);have c1:=hk1.cell (p:=⟨w.heap.size,1,none⟩) (v:=.int .i64 m) (by go_simp);have c2:=hk1.cell (p:=⟨w.heap.size,2,none⟩) (v:=.int .i64 n) (by go_simp);have cz:=World.block_lt_of_cell? _ _ c0)
   go_ret
   exact ⟨by rw [HB.out];rfl,((Keeps.refl w).alloc _).trans hk1⟩
  ·have e1:decide (p < 0)=false:=decide_eq_false h1
   by_cases h2:n≤p
   ·have HB:Hid (chkF y m n p=2):=Lib.hid (by rw [hC,if_pos (.inr h2)])
    have e2:decide (n≤p)=true:=decide_eq_true h2
    clear hC h1 h2
    go_enter Tryz.func91,Tryz.ntmps91
    go_wp2_with (go_at_call 131;refine (HV.out _).mono ?_;rintro e w1 ⟨rfl,hk1⟩;have c0:=hk1.cell (p:=⟨w.heap.size,0,none⟩) (v:=.int .i64 y) (by go_simp);have c1:=hk1.cell (p:=⟨w.heap.size,1,none⟩) (v:=.int .i64 m) (by go_simp);have c2:=hk1.cell (p:=⟨w.heap.size,2,none⟩) (v:=.int .i64 n) (by go_simp);have cz:=World.block_lt_of_cell? _ _ c0)
    go_ret
    exact ⟨by rw [HB.out];rfl,((Keeps.refl w).alloc _).trans hk1⟩
   ·have HB:Hid (chkF y m n p=0):=Lib.hid (by rw [hC,if_neg (by omega)])
    have e2:decide (n≤p)=false:=decide_eq_false h2
    clear hC h1 h2
    go_enter Tryz.func91,Tryz.ntmps91
    go_wp2_with (go_at_call 131;refine (HV.out _).mono ?_;rintro e w1 ⟨rfl,hk1⟩;have c0:=hk1.cell (p:=⟨w.heap.size,0,none⟩) (v:=.int .i64 y) (by go_simp);have c1:=hk1.cell (p:=⟨w.heap.size,1,none⟩) (v:=.int .i64 m) (by go_simp);have c2:=hk1.cell (p:=⟨w.heap.size,2,none⟩) (v:=.int .i64 n) (by go_simp);have cz:=World.block_lt_of_cell? _ _ c0)
    go_ret
    exact ⟨by rw [HB.out];rfl,((Keeps.refl w).alloc _).trans hk1⟩
theorem frs_ok {y m n p q:Int} (h:chkF y m n p=0) (h1:0≤q) (h2:q≤p):frsR y m q=(fdF (12 * y+m - 1+q),0)∧fdE (12 * y+m - 1+q)=(fdF (12 * y+m - 1+q),0):=by
 have:=chk_ok h
 unfold frsR fdE
 rw [if_pos (by omega),if_pos (by omega)]
 exact ⟨rfl,rfl⟩
theorem firstP_ok {y m n p:Int} (h:chkF y m n p=0) {q:Int} (h1:0≤q) (h2:q≤p) (w:World) :
  Calls Tryz.prog 75 #[.agg #[.int .i64 y,.int .i64 m,.int .i64 n],.int .i64 q] w fun e w'=>e=.returned (.tuple #[.int .i64 (fdF (12 * y+m - 1+q)),.int .i64 0])∧Keeps w w':=by
 have hc:=chk_ok h
 have:=firstP_any y m n q (by omega) (by omega) (by omega) (by omega) h1 (by omega) w
 rw [(frs_ok h h1 h2).2] at this
 exact this
theorem firstR_ok {y m n p:Int} (h:chkF y m n p=0) {q:Int} (h1:0≤q) (h2:q≤p) (w:World) :
  Calls Tryz.prog 93 #[.agg #[.int .i64 y,.int .i64 m,.int .i64 n],.int .i64 q] w fun e w'=>e=.returned (.tuple #[.int .i64 (fdF (12 * y+m - 1+q)),.int .i64 0])∧Keeps w w':=by
 have hc:=chk_ok h
 have:=firstR_any y m n q h1 (by omega) w
 rw [(frs_ok h h1 h2).1] at this
 exact this
theorem firP_any (y m n p:Int) (w:World):Calls Tryz.prog 71 #[.agg #[.int .i64 y,.int .i64 m,.int .i64 n],.int .i64 p] w fun e w'=>e=.returned (.tuple #[.int .i64 (firF y m n p).1,.int .i64 (firF y m n p).2])∧Keeps w w':=by
 have HV:Hid (∀ W,Calls Tryz.prog 74 #[.agg #[.int .i64 y,.int .i64 m,.int .i64 n],.int .i64 p] W fun e w'=>e=.returned (.int .i64 (chkF y m n p))∧Keeps W w'):=Lib.hid (fun W=>chkP_any y m n p W)
 obtain ⟨c,hc⟩:∃ c,chkF y m n p=c:=⟨_,rfl⟩
 rw [hc] at HV
 by_cases h0:c=0
 ·subst h0
  have HR:Hid (firF y m n p=(fdF (12 * y+m - 1+p),0)):=Lib.hid (if_pos hc)
  have HF:Hid (∀ W,Calls Tryz.prog 75 #[.agg #[.int .i64 y,.int .i64 m,.int .i64 n],.int .i64 p] W fun e w'=>e=.returned (.tuple #[.int .i64 (fdF (12 * y+m - 1+p)),.int .i64 0])∧Keeps W w'):=Lib.hid (fun W=>firstP_ok hc (chk_ok hc).2.2.2.2.2.2.1 (Int.le_refl _) W)
  obtain ⟨d,hd⟩:∃ d,fdF (12 * y+m - 1+p)=d:=⟨_,rfl⟩
  rw [hd] at HF HR
  clear hd hc
  go_enter Tryz.func71,Tryz.ntmps71
  go_wp2_with (first | (go_at_call 74;refine (HV.out _).mono ?_;rintro e w1 ⟨rfl,hk1⟩;have c0:=hk1.cell (p:=⟨w.heap.size,0,none⟩) (v:=.int .i64 y) (by go_simp);have c1:=hk1.cell (p:=⟨w.heap.size,1,none⟩) (v:=.int .i64 m) (by go_simp);have c2:=hk1.cell (p:=⟨w.heap.size,2,none⟩) (v:=.int .i64 n) (by go_simp);have cz:=World.block_lt_of_cell? _ _ c0) | (go_at_call 75;refine (HF.out _).mono ?_;rintro e w2 ⟨rfl,hk2⟩))
  go_ret2
  exact ⟨by rw [HR.out];rfl,((Keeps.refl w).alloc _).trans (hk1.trans hk2)⟩
 ·have HR:Hid (firF y m n p=(0,c)):=Lib.hid (by unfold firF;rw [hc,if_neg h0])
  have e1:(c != 0)=true:=by simpa using h0
  have e2:(c == 0)=false:=by simpa using h0
  clear hc h0
  go_enter Tryz.func71,Tryz.ntmps71
  go_wp2_with (go_at_call 74;refine (HV.out _).mono ?_;rintro e w1 ⟨rfl,hk1⟩;have c0:=hk1.cell (p:=⟨w.heap.size,0,none⟩) (v:=.int .i64 y) (by go_simp);have c1:=hk1.cell (p:=⟨w.heap.size,1,none⟩) (v:=.int .i64 m) (by go_simp);have c2:=hk1.cell (p:=⟨w.heap.size,2,none⟩) (v:=.int .i64 n) (by go_simp);have cz:=World.block_lt_of_cell? _ _ c0)
  go_ret2
  exact ⟨by rw [HR.out];rfl,((Keeps.refl w).alloc _).trans hk1⟩
theorem firR_any (y m n p:Int) (w:World):Calls Tryz.prog 56 #[.agg #[.int .i64 y,.int .i64 m,.int .i64 n],.int .i64 p] w fun e w'=>e=.returned (.tuple #[.int .i64 (firF y m n p).1,.int .i64 (firF y m n p).2])∧Keeps w w':=by
 have HV:Hid (∀ W,Calls Tryz.prog 91 #[.agg #[.int .i64 y,.int .i64 m,.int .i64 n],.int .i64 p] W fun e w'=>e=.returned (.int .i64 (chkF y m n p))∧Keeps W w'):=Lib.hid (fun W=>chkR_any y m n p W)
 obtain ⟨c,hc⟩:∃ c,chkF y m n p=c:=⟨_,rfl⟩
 rw [hc] at HV
 by_cases h0:c=0
 ·subst h0
  have HR:Hid (firF y m n p=(fdF (12 * y+m - 1+p),0)):=Lib.hid (if_pos hc)
  have HF:Hid (∀ W,Calls Tryz.prog 93 #[.agg #[.int .i64 y,.int .i64 m,.int .i64 n],.int .i64 p] W fun e w'=>e=.returned (.tuple #[.int .i64 (fdF (12 * y+m - 1+p)),.int .i64 0])∧Keeps W w'):=Lib.hid (fun W=>firstR_ok hc (chk_ok hc).2.2.2.2.2.2.1 (Int.le_refl _) W)
  obtain ⟨d,hd⟩:∃ d,fdF (12 * y+m - 1+p)=d:=⟨_,rfl⟩
  rw [hd] at HF HR
  clear hd hc
  go_enter Tryz.func56,Tryz.ntmps56
  go_wp2_with (first | (go_at_call 91;refine (HV.out _).mono ?_;rintro e w1 ⟨rfl,hk1⟩;have c0:=hk1.cell (p:=⟨w.heap.size,0,none⟩) (v:=.int .i64 y) (by go_simp);have c1:=hk1.cell (p:=⟨w.heap.size,1,none⟩) (v:=.int .i64 m) (by go_simp);have c2:=hk1.cell (p:=⟨w.heap.size,2,none⟩) (v:=.int .i64 n) (by go_simp);have cz:=World.block_lt_of_cell? _ _ c0) | (go_at_call 93;refine (HF.out _).mono ?_;rintro e w2 ⟨rfl,hk2⟩))
  go_ret2
  exact ⟨by rw [HR.out];rfl,((Keeps.refl w).alloc _).trans (hk1.trans hk2)⟩
 ·have HR:Hid (firF y m n p=(0,c)):=Lib.hid (by unfold firF;rw [hc,if_neg h0])
  have e1:(c != 0)=true:=by simpa using h0
  have e2:(c == 0)=false:=by simpa using h0
  clear hc h0
  go_enter Tryz.func56,Tryz.ntmps56
  go_wp2_with (go_at_call 91;refine (HV.out _).mono ?_;rintro e w1 ⟨rfl,hk1⟩;have c0:=hk1.cell (p:=⟨w.heap.size,0,none⟩) (v:=.int .i64 y) (by go_simp);have c1:=hk1.cell (p:=⟨w.heap.size,1,none⟩) (v:=.int .i64 m) (by go_simp);have c2:=hk1.cell (p:=⟨w.heap.size,2,none⟩) (v:=.int .i64 n) (by go_simp);have cz:=World.block_lt_of_cell? _ _ c0)
  go_ret2
  exact ⟨by rw [HR.out];rfl,((Keeps.refl w).alloc _).trans hk1⟩
theorem lasP_any (y m n p:Int) (w:World):Calls Tryz.prog 41 #[.agg #[.int .i64 y,.int .i64 m,.int .i64 n],.int .i64 p] w fun e w'=>e=.returned (.tuple #[.int .i64 (lasF y m n p).1,.int .i64 (lasF y m n p).2])∧Keeps w w':=by
 have HV:Hid (∀ W,Calls Tryz.prog 71 #[.agg #[.int .i64 y,.int .i64 m,.int .i64 n],.int .i64 p] W fun e w'=>e=.returned (.tuple #[.int .i64 (firF y m n p).1,.int .i64 (firF y m n p).2])∧Keeps W w'):=Lib.hid (fun W=>firP_any y m n p W)
 obtain ⟨c,hc⟩:∃ c,chkF y m n p=c:=⟨_,rfl⟩
 by_cases h0:c=0
 ·subst h0
  have hk:=chk_ok hc
  have hF:firF y m n p=(fdF (12 * y+m - 1+p),0):=if_pos hc
  have hL:lasF y m n p=(fdF (12 * y+m - 1+p)+dmF ((12 * y+m - 1+p).tdiv 12) ((12 * y+m - 1+p).tmod 12+1) - 1,0):=if_pos hc
  rw [hF] at HV
  have hm:=month_of (n:=12 * y+m - 1+p) (by omega) (by omega)
  have hD:fdF (12 * y+m - 1+p)=begF ((12 * y+m - 1+p).tdiv 12)+mofF ((12 * y+m - 1+p).tdiv 12) ((12 * y+m - 1+p).tmod 12).toNat:=rfl
  rw [hD] at HV hL
  obtain ⟨a,ha⟩:∃ a,(12 * y+m - 1+p).tdiv 12=a:=⟨_,rfl⟩
  obtain ⟨j,hj⟩:∃ j,((12 * y+m - 1+p).tmod 12).toNat=j:=⟨_,rfl⟩
  rw [show (12 * y+m - 1+p).tmod 12=(j:Int) from by omega] at hL hm
  rw [hj,ha] at HV
  rw [ha] at hL hm
  rw [Int.toNat_natCast] at hL
  have HC:Hid (∀ W,Calls Tryz.prog 72 #[.int .i64 (begF a+mofF a j)] W fun e w'=>e=.returned (.tuple #[.int .i64 a,.int .i64 ((j:Int)+1),.int .i64 1,.int .i64 0])∧Keeps W w'):=Lib.hid (fun W=>civP_any a j hm.1 hm.2.1 (by omega) W)
  have HD:Hid (∀ W,Calls Tryz.prog 73 #[.int .i64 a,.int .i64 ((j:Int)+1)] W fun e w'=>e=.returned (.int .i64 (dmF a ((j:Int)+1)))∧Keeps W w'):=Lib.hid (fun W=>daysP_any a _ W)
  have hmo:=month_ok hm.1 hm.2.1 (show j < 12 by omega)
  have b1:=hmo.min
  have b2:=hmo.max
  have b3:=hmo.d28
  have b4:=hmo.d31
  rw [show ((j+1:Nat):Int)=(j:Int)+1 from by omega] at b3 b4
  obtain ⟨d,hd⟩:∃ d,begF a+mofF a j=d:=⟨_,rfl⟩
  obtain ⟨D,hD'⟩:∃ D,dmF a ((j:Int)+1)=D:=⟨_,rfl⟩
  rw [hd] at HV HC hL b1 b2
  rw [hD'] at HD hL b3 b4
  have HR:=Lib.hid hL
  clear hd hD' hL hD hF hmo ha hj hm hc hk
  go_enter Tryz.func41,Tryz.ntmps41
  go_wp2_with (first | (go_at_call 71;refine (HV.out _).mono ?_;rintro e w1 ⟨rfl,hk1⟩) | (go_at_call 72;refine (HC.out _).mono ?_;rintro e w2 ⟨rfl,hk2⟩) | (go_at_call 73;refine (HD.out _).mono ?_;rintro e w3 ⟨rfl,hk3⟩))
  go_ret2
  exact ⟨by rw [HR.out];rfl,((Keeps.refl w).alloc _).trans (hk1.trans (hk2.trans hk3))⟩
 ·have HR:Hid (lasF y m n p=(0,c)):=Lib.hid (by unfold lasF;rw [hc,if_neg h0])
  have hF:firF y m n p=(0,c):=by unfold firF;rw [hc,if_neg h0]
  rw [hF] at HV
  have e1:(c != 0)=true:=by simpa using h0
  have e2:(c == 0)=false:=by simpa using h0
  clear hc h0 hF
  go_enter Tryz.func41,Tryz.ntmps41
  go_wp2_with (go_at_call 71;refine (HV.out _).mono ?_;rintro e w1 ⟨rfl,hk1⟩)
  go_ret2
  exact ⟨by rw [HR.out];rfl,((Keeps.refl w).alloc _).trans hk1⟩
theorem lasR_any (y m n p:Int) (w:World):Calls Tryz.prog 33 #[.agg #[.int .i64 y,.int .i64 m,.int .i64 n],.int .i64 p] w fun e w'=>e=.returned (.tuple #[.int .i64 (lasF y m n p).1,.int .i64 (lasF y m n p).2])∧Keeps w w':=by
 have HV:Hid (∀ W,Calls Tryz.prog 56 #[.agg #[.int .i64 y,.int .i64 m,.int .i64 n],.int .i64 p] W fun e w'=>e=.returned (.tuple #[.int .i64 (firF y m n p).1,.int .i64 (firF y m n p).2])∧Keeps W w'):=Lib.hid (fun W=>firR_any y m n p W)
 obtain ⟨c,hc⟩:∃ c,chkF y m n p=c:=⟨_,rfl⟩
 by_cases h0:c=0
 ·subst h0
  have hk:=chk_ok hc
  have hF:firF y m n p=(fdF (12 * y+m - 1+p),0):=if_pos hc
  have hL:lasF y m n p=(fdF (12 * y+m - 1+p)+dmF ((12 * y+m - 1+p).tdiv 12) ((12 * y+m - 1+p).tmod 12+1) - 1,0):=if_pos hc
  rw [hF] at HV
  have hm:=month_of (n:=12 * y+m - 1+p) (by omega) (by omega)
  have hD:fdF (12 * y+m - 1+p)=begF ((12 * y+m - 1+p).tdiv 12)+mofF ((12 * y+m - 1+p).tdiv 12) ((12 * y+m - 1+p).tmod 12).toNat:=rfl
  rw [hD] at HV hL
  obtain ⟨a,ha⟩:∃ a,(12 * y+m - 1+p).tdiv 12=a:=⟨_,rfl⟩
  obtain ⟨j,hj⟩:∃ j,((12 * y+m - 1+p).tmod 12).toNat=j:=⟨_,rfl⟩
  rw [show (12 * y+m - 1+p).tmod 12=(j:Int) from by omega] at hL hm
  rw [hj,ha] at HV
  rw [ha] at hL hm
  rw [Int.toNat_natCast] at hL
  have HC:Hid (∀ W,Calls Tryz.prog 57 #[.int .i64 (begF a+mofF a j)] W fun e w'=>e=.returned (.tuple #[.int .i64 a,.int .i64 ((j:Int)+1),.int .i64 1,.int .i64 0])∧Keeps W w'):=Lib.hid (fun W=>civR_any a j hm.1 hm.2.1 (by omega) W)
  have HD:Hid (∀ W,Calls Tryz.prog 58 #[.int .i64 a,.int .i64 ((j:Int)+1)] W fun e w'=>e=.returned (.int .i64 (dmF a ((j:Int)+1)))∧Keeps W w'):=Lib.hid (fun W=>daysR_any a _ W)
  have hmo:=month_ok hm.1 hm.2.1 (show j < 12 by omega)
  have b1:=hmo.min
  have b2:=hmo.max
  have b3:=hmo.d28
  have b4:=hmo.d31
  rw [show ((j+1:Nat):Int)=(j:Int)+1 from by omega] at b3 b4
  obtain ⟨d,hd⟩:∃ d,begF a+mofF a j=d:=⟨_,rfl⟩
  obtain ⟨D,hD'⟩:∃ D,dmF a ((j:Int)+1)=D:=⟨_,rfl⟩
  rw [hd] at HV HC hL b1 b2
  rw [hD'] at HD hL b3 b4
  have HR:=Lib.hid hL
  clear hd hD' hL hD hF hmo ha hj hm hc hk
  go_enter Tryz.func33,Tryz.ntmps33
  go_wp2_with (first | (go_at_call 56;refine (HV.out _).mono ?_;rintro e w1 ⟨rfl,hk1⟩) | (go_at_call 57;refine (HC.out _).mono ?_;rintro e w2 ⟨rfl,hk2⟩) | (go_at_call 58;refine (HD.out _).mono ?_;rintro e w3 ⟨rfl,hk3⟩))
  go_ret2
  exact ⟨by rw [HR.out];rfl,((Keeps.refl w).alloc _).trans (hk1.trans (hk2.trans hk3))⟩
 ·have HR:Hid (lasF y m n p=(0,c)):=Lib.hid (by unfold lasF;rw [hc,if_neg h0])
  have hF:firF y m n p=(0,c):=by unfold firF;rw [hc,if_neg h0]
  rw [hF] at HV
  have e1:(c != 0)=true:=by simpa using h0
  have e2:(c == 0)=false:=by simpa using h0
  clear hc h0 hF
  go_enter Tryz.func33,Tryz.ntmps33
  go_wp2_with (go_at_call 56;refine (HV.out _).mono ?_;rintro e w1 ⟨rfl,hk1⟩)
  go_ret2
  exact ⟨by rw [HR.out];rfl,((Keeps.refl w).alloc _).trans hk1⟩
theorem yr_sub {y m n p:Int} (h:chkF y m n p=0):0≤p.tmod 12∧p.tmod 12≤p∧p≤120:=by
 have:=chk_ok h
 rw [tmod12 (by omega)]
 omega
theorem chk_sub {y m n p q:Int} (h:chkF y m n p=0) (h1:0≤q) (h2:q≤p):chkF y m n q=0:=by
 have:=chk_ok h
 have hc:calB y m n=true:=by
  unfold chkF at h
  by_cases hc:calB y m n=true
  ·exact hc
  ·rw [if_neg hc] at h;omega
 unfold chkF
 rw [if_pos hc,if_neg (by omega)]
theorem yrP_any (y m n p:Int) (w:World):Calls Tryz.prog 42 #[.agg #[.int .i64 y,.int .i64 m,.int .i64 n],.int .i64 p] w fun e w'=>e=.returned (.tuple #[.int .i64 (yrF y m n p).1,.int .i64 (yrF y m n p).2])∧Keeps w w':=by
 have HV:Hid (∀ W,Calls Tryz.prog 74 #[.agg #[.int .i64 y,.int .i64 m,.int .i64 n],.int .i64 p] W fun e w'=>e=.returned (.int .i64 (chkF y m n p))∧Keeps W w'):=Lib.hid (fun W=>chkP_any y m n p W)
 obtain ⟨c,hc⟩:∃ c,chkF y m n p=c:=⟨_,rfl⟩
 rw [hc] at HV
 by_cases h0:c=0
 ·subst h0
  have hs:=yr_sub hc
  have hR:yrF y m n p=(fdF (12 * y+m - 1+(p - p.tmod 12)),0):=if_pos hc
  have HF:Hid (∀ W,Calls Tryz.prog 75 #[.agg #[.int .i64 y,.int .i64 m,.int .i64 n],.int .i64 (p - p.tmod 12)] W fun e w'=>e=.returned (.tuple #[.int .i64 (fdF (12 * y+m - 1+(p - p.tmod 12))),.int .i64 0])∧Keeps W w'):=Lib.hid (fun W=>by exact firstP_ok hc (by omega) (by omega) W)
  obtain ⟨q,hq⟩:∃ q,p.tmod 12=q:=⟨_,rfl⟩
  rw [hq] at HF hR hs
  obtain ⟨d,hd⟩:∃ d,fdF (12 * y+m - 1+(p - q))=d:=⟨_,rfl⟩
  rw [hd] at HF hR
  have HR:=Lib.hid hR
  clear hd hc hR
  go_enter Tryz.func42,Tryz.ntmps42
  go_wp2_with (first | (go_at_call 74;refine (HV.out _).mono ?_;rintro e w1 ⟨rfl,hk1⟩;have c0:=hk1.cell (p:=⟨w.heap.size,0,none⟩) (v:=.int .i64 y) (by go_simp);have c1:=hk1.cell (p:=⟨w.heap.size,1,none⟩) (v:=.int .i64 m) (by go_simp);have c2:=hk1.cell (p:=⟨w.heap.size,2,none⟩) (v:=.int .i64 n) (by go_simp);have cz:=World.block_lt_of_cell? _ _ c0) | (go_at_call 75;refine (HF.out _).mono ?_;rintro e w2 ⟨rfl,hk2⟩))
  go_ret2
  exact ⟨by rw [HR.out];rfl,((Keeps.refl w).alloc _).trans (hk1.trans hk2)⟩
 ·have HR:Hid (yrF y m n p=(0,c)):=Lib.hid (by unfold yrF;rw [hc,if_neg h0])
  have e1:(c != 0)=true:=by simpa using h0
  have e2:(c == 0)=false:=by simpa using h0
  clear hc h0
  go_enter Tryz.func42,Tryz.ntmps42
  go_wp2_with (go_at_call 74;refine (HV.out _).mono ?_;rintro e w1 ⟨rfl,hk1⟩;have c0:=hk1.cell (p:=⟨w.heap.size,0,none⟩) (v:=.int .i64 y) (by go_simp);have c1:=hk1.cell (p:=⟨w.heap.size,1,none⟩) (v:=.int .i64 m) (by go_simp);have c2:=hk1.cell (p:=⟨w.heap.size,2,none⟩) (v:=.int .i64 n) (by go_simp);have cz:=World.block_lt_of_cell? _ _ c0)
  go_ret2
  exact ⟨by rw [HR.out];rfl,((Keeps.refl w).alloc _).trans hk1⟩
theorem firR_ok {y m n p:Int} (h:chkF y m n p=0) {q:Int} (h1:0≤q) (h2:q≤p) (w:World) :
  Calls Tryz.prog 56 #[.agg #[.int .i64 y,.int .i64 m,.int .i64 n],.int .i64 q] w fun e w'=>e=.returned (.tuple #[.int .i64 (fdF (12 * y+m - 1+q)),.int .i64 0])∧Keeps w w':=by
 have:=firR_any y m n q w
 rw [show firF y m n q=(fdF (12 * y+m - 1+q),0) from if_pos (chk_sub h h1 h2)] at this
 exact this
theorem yrR_any (y m n p:Int) (w:World):Calls Tryz.prog 53 #[.agg #[.int .i64 y,.int .i64 m,.int .i64 n],.int .i64 p] w fun e w'=>e=.returned (.tuple #[.int .i64 (yrF y m n p).1,.int .i64 (yrF y m n p).2])∧Keeps w w':=by
 have HV:Hid (∀ W,Calls Tryz.prog 91 #[.agg #[.int .i64 y,.int .i64 m,.int .i64 n],.int .i64 p] W fun e w'=>e=.returned (.int .i64 (chkF y m n p))∧Keeps W w'):=Lib.hid (fun W=>chkR_any y m n p W)
 obtain ⟨c,hc⟩:∃ c,chkF y m n p=c:=⟨_,rfl⟩
 rw [hc] at HV
 by_cases h0:c=0
 ·subst h0
  have hs:=yr_sub hc
  have hR:yrF y m n p=(fdF (12 * y+m - 1+(p - p.tmod 12)),0):=if_pos hc
  have HF:Hid (∀ W,Calls Tryz.prog 56 #[.agg #[.int .i64 y,.int .i64 m,.int .i64 n],.int .i64 (p - p.tmod 12)] W fun e w'=>e=.returned (.tuple #[.int .i64 (fdF (12 * y+m - 1+(p - p.tmod 12))),.int .i64 0])∧Keeps W w'):=Lib.hid (fun W=>by exact firR_ok hc (by omega) (by omega) W)
  obtain ⟨q,hq⟩:∃ q,p.tmod 12=q:=⟨_,rfl⟩
  rw [hq] at HF hR hs
  obtain ⟨d,hd⟩:∃ d,fdF (12 * y+m - 1+(p - q))=d:=⟨_,rfl⟩
  rw [hd] at HF hR
  have HR:=Lib.hid hR
  clear hd hc hR
  go_enter Tryz.func53,Tryz.ntmps53
  go_wp2_with (first | (go_at_call 91;refine (HV.out _).mono ?_;rintro e w1 ⟨rfl,hk1⟩;have c0:=hk1.cell (p:=⟨w.heap.size,0,none⟩) (v:=.int .i64 y) (by go_simp);have c1:=hk1.cell (p:=⟨w.heap.size,1,none⟩) (v:=.int .i64 m) (by go_simp);have c2:=hk1.cell (p:=⟨w.heap.size,2,none⟩) (v:=.int .i64 n) (by go_simp);have cz:=World.block_lt_of_cell? _ _ c0) | (go_at_call 56;refine (HF.out _).mono ?_;rintro e w2 ⟨rfl,hk2⟩))
  go_ret2
  exact ⟨by rw [HR.out];rfl,((Keeps.refl w).alloc _).trans (hk1.trans hk2)⟩
 ·have HR:Hid (yrF y m n p=(0,c)):=Lib.hid (by unfold yrF;rw [hc,if_neg h0])
  have e1:(c != 0)=true:=by simpa using h0
  have e2:(c == 0)=false:=by simpa using h0
  clear hc h0
  go_enter Tryz.func53,Tryz.ntmps53
  go_wp2_with (go_at_call 91;refine (HV.out _).mono ?_;rintro e w1 ⟨rfl,hk1⟩;have c0:=hk1.cell (p:=⟨w.heap.size,0,none⟩) (v:=.int .i64 y) (by go_simp);have c1:=hk1.cell (p:=⟨w.heap.size,1,none⟩) (v:=.int .i64 m) (by go_simp);have c2:=hk1.cell (p:=⟨w.heap.size,2,none⟩) (v:=.int .i64 n) (by go_simp);have cz:=World.block_lt_of_cell? _ _ c0)
  go_ret2
  exact ⟨by rw [HR.out];rfl,((Keeps.refl w).alloc _).trans hk1⟩
end Go.Proofs.YtoaidbhiciaeaaaGreat

end
