/- Walks and plain facts that the claim rests on (RowsP, CtlP, CtlBits, CtlVotes, CtlStepW). No condition. -/
import Derived.Test.YtoaidbhiciaeaaaGreatPo01
import Derived.Laws.Bits64b
import Derived.Laws.BitsLemmas
import Derived.Laws.BitsAllLaws
import Derived.Test.YtoaidbhiciaeaaaGreatProg
import Derived.WalkKit
import Derived.Test.YtoaidbhiciaeaaaGreatPo08
set_option linter.unusedSimpArgs false
set_option linter.unusedVariables false
set_option maxHeartbeats 16000000
section
namespace Go.Proofs.YtoaidbhiciaeaaaGreat
open Go.RowKit
def RowVs (w:World) (vs:List Value) (ls:List (List Int)):Prop:=vs.length=ls.length∧∀ i (h:i < vs.length) (h2:i < ls.length),IntL w vs[i] ls[i]
theorem RowVs.keeps {w w':World} {vs:List Value} {ls:List (List Int)} (h:RowVs w vs ls) (k:Keeps w w'):RowVs w' vs ls:=⟨h.1,fun i h1 h2=>(h.2 i h1 h2).keeps k⟩
theorem RowVs.nil (w:World):RowVs w [] []:=⟨rfl,fun i h=>absurd h (Nat.not_lt_zero _)⟩
theorem RowVs.snoc {w:World} {vs:List Value} {ls:List (List Int)} {v:Value} {l:List Int} (h:RowVs w vs ls) (hv:IntL w v l):RowVs w (vs ++ [v]) (ls ++ [l]):=by
 refine ⟨by simp [h.1],fun i h1 h2=>?_⟩
 simp only [List.length_append,List.length_cons,List.length_nil] at h1
 by_cases hi:i < vs.length
 ·have h3:i < ls.length:=by rw [← h.1];exact hi
  rw [List.getElem_append_left hi,List.getElem_append_left h3]
  exact h.2 i hi h3
 ·obtain rfl:i=vs.length:=by omega
  have e1:(vs ++ [v])[vs.length]'(by simp)=v:=by simp
  have e2:(ls ++ [l])[vs.length]'(by simp [h.1])=l:=by simp [h.1]
  rw [e1,e2]
  exact hv
theorem IntL.one {w:World} {v:Value} {xs:List Int} (h:IntL w v xs):v.oneCell'=true:=by obtain ⟨ao,cap,b,o,rfl,_⟩:=h;rfl
def Rows (w:World) (ao:Option Addr) (ls:List (List Int)) (cap b o:Nat):Prop:=∃ vs,Sl w 1 ao ls.length cap b o vs∧RowVs w vs ls
theorem Rows.keeps {w w':World} {ao:Option Addr} {ls:List (List Int)} {cap b o:Nat} (h:Rows w ao ls cap b o) (k:Keeps w w'):Rows w' ao ls cap b o:=by
 obtain ⟨vs,h1,h2⟩:=h
 exact ⟨vs,h1.keeps k,h2.keeps k⟩
theorem Rows.nil (w:World):Rows w none [] 0 0 0:=⟨[],Sl.nil _ _,RowVs.nil w⟩
theorem Rows.le {w:World} {ao:Option Addr} {ls:List (List Int)} {cap b o:Nat} (h:Rows w ao ls cap b o):ls.length≤cap:=by obtain ⟨vs,h1,_⟩:=h;exact h1.le
theorem Rows.cap {w:World} {ao:Option Addr} {ls:List (List Int)} {cap b o:Nat} (h:Rows w ao ls cap b o):cap≤9223372036854775807:=by obtain ⟨vs,h1,_⟩:=h;exact h1.cap
theorem Rows.at {w:World} {ao:Option Addr} {ls:List (List Int)} {cap b o:Nat} (h:Rows w ao ls cap b o) (k:Nat) (hk:k < ls.length) :
  ∃ ao2 cap2 b2 o2,w.cell? ⟨b,o+k,none⟩=some (.slice ao2 (ls[k]).length cap2)∧Sl w 1 ao2 (ls[k]).length cap2 b2 o2 ((ls[k]).map (.int .i64)):=by
 obtain ⟨vs,h1,h2⟩:=h
 have hk2:k < vs.length:=by rw [h2.1];exact hk
 obtain ⟨ao2,cap2,b2,o2,e,hs⟩:=h2.2 k hk2 hk
 exact ⟨ao2,cap2,b2,o2,by rw [← e];exact h1.cell k _ (List.getElem?_eq_getElem hk2),hs⟩
theorem Rows.at1 {P:Program} {t e:TypeId} {w:World} {ao:Option Addr} {ls:List (List Int)} {cap b o:Nat} (H:Rows w ao ls cap b o) (ht:P.underlying t=some (.slice e)) (hz:∀ w,(sizeOf e).run P w=.ok 1 w)
  (k:Nat) (hk:k < ls.length):∀ w',(Instr.indexAt t (.slice ao ls.length cap) (.int .i64 (k:Int))).run P w'=.ok (.pointer (some ⟨b,o+k,none⟩)) w':=by
 obtain ⟨vs,h1,_⟩:=H
 exact h1.at1 ht hz k hk
theorem Rows.own {w:World} {base e:Nat} {v:Value} {vs:List Value} {ls:List (List Int)} (h:w.ownsRow base e 1 v ls.length vs) (h2:RowVs w vs ls):∃ ao cap b,v=.slice ao ls.length cap∧Rows w ao ls cap b 0:=by
 obtain ⟨ao,cap,b,rfl,hs⟩:=Sl.own h
 exact ⟨ao,cap,b,rfl,vs,hs,h2⟩
theorem wpList_app_rawR {P:Program} {w:World} {ops:Array Oper} {rest:List Oper} {o:Oper} {a:Act} {Q:Exit→Act→World→Prop} {t e:TypeId} {z:Value} {size bytes:Nat}
  (E:ElemOf P t e z size bytes) (hgd:o.guard=none) (s x:Operand) (ho:o.op=.call { callee:=.builtin .append,args:=#[s,x],argTypes:=#[t,t] })
  (v:Value) (n:Nat) (xs:List Value) (hs:a.eval s=v) (base:Nat) (hown:w.ownsRow base e size v n xs) (hbase:base≤w.heap.size)
  (news:List Value) (bx c:Nat) (hx:a.eval x=.slice (some ⟨bx,0,none⟩) 1 c) (hbx:bx=w.heap.size) (hl:news.length=size) (h1:∀ u∈news,u.oneCell'=true) (hbytes:(n+1) * bytes≤140737488355328) (h63:n+1≤9223372036854775807)
  (h:∀ v' w',w'.ownsRow base e size v' (n+1) (xs ++ news)→(w.alloc (.cells news.toArray e)).grownBy w' v.ownBlock→(v'.ownBlock=v.ownBlock∨v'.ownBlock=some (w.heap.size+1))→wpList P ops Q rest (a.put o.dst v') w') :
  wpList P ops Q (o :: rest) a (w.alloc (.cells news.toArray e)):=by
 subst hbx
 obtain ⟨i0,hi,hz0,hz1,hz2⟩:=info_parts E.info
 refine wpList_append_own_at _ hgd s x t ho base e i0 z size bytes E.ht hi hz0 hz1 hz2 E.zs E.sz v n xs hs (hown.alloc _) ⟨w.heap.size,0,none⟩ 1 c news hx (by omega) ?_ h1 (by unfold maxLen;omega) hbytes (by simp;omega) ?_
 ·intro j u hj
  rw [Addr.add_lit,Nat.zero_add,cell_of_row (w.alloc (.cells news.toArray e)) w.heap.size j news.toArray e (0,0) (heap_alloc_new w _)]
  simpa using hj
 ·intro v' w' hown' hgrow _ hat
  exact h v' w' hown' hgrow (by simpa using hat)
theorem IntL.grown {w w':World} {v:Value} {xs:List Int} {g:Option Nat} (h:IntL w v xs) (hg:w.grownBy w' g) (hs:v.ownBlock=none∨v.ownBlock≠g) (hlt:∀ b,v.ownBlock=some b→b < w.heap.size):IntL w' v xs:=by
 obtain ⟨ao,cap,b,o,rfl,hs2⟩:=h
 refine ⟨ao,cap,b,o,rfl,hs2.len,hs2.le,hs2.nocap,hs2.cap,hs2.addr,fun j u hu=>?_⟩
 have hn:0 < xs.length:=by
  rcases Nat.eq_zero_or_pos xs.length with h0 | h0
  ·rw [List.eq_nil_of_length_eq_zero h0] at hu;simp at hu
  ·exact h0
 have ha:=hs2.addr hn
 subst ha
 have hne:some b≠g:=by
  rcases hs with hs | hs
  ·cases hs
  ·exact hs
 exact hg.cell (hs2.cell j u hu) hne
def RowsG (w:World) (g:Option Nat) (vs:List Value) (ls:List (List Int)):Prop:=RowVs w vs ls∧∀ u∈vs,(u.ownBlock=none∨u.ownBlock≠g)∧∀ b,u.ownBlock=some b→b < w.heap.size
theorem RowsG.nil (w:World) (g:Option Nat):RowsG w g [] []:=⟨RowVs.nil w,fun u hu=>absurd hu (by simp)⟩
theorem RowsG.keeps {w w':World} {g:Option Nat} {vs:List Value} {ls:List (List Int)} (h:RowsG w g vs ls) (k:Keeps w w'):RowsG w' g vs ls:=
 ⟨h.1.keeps k,fun u hu=>⟨(h.2 u hu).1,fun b hb=>Nat.lt_of_lt_of_le ((h.2 u hu).2 b hb) k.size⟩⟩
theorem RowsG.grown {w w':World} {g g':Option Nat} {vs:List Value} {ls:List (List Int)} (h:RowsG w g vs ls) (hg:w.grownBy w' g) (hat:g'=g∨g'=some w.heap.size):RowsG w' g' vs ls:=by
 refine ⟨⟨h.1.1,fun i h1 h2=>(h.1.2 i h1 h2).grown hg (h.2 _ (List.getElem_mem h1)).1 (h.2 _ (List.getElem_mem h1)).2⟩,fun u hu=>⟨?_,fun b hb=>Nat.lt_of_lt_of_le ((h.2 u hu).2 b hb) hg.size⟩⟩
 rcases hat with rfl | rfl
 ·exact (h.2 u hu).1
 ·cases hb:u.ownBlock with
  | none=>exact .inl rfl
  | some b=>
   right
   have:=(h.2 u hu).2 b hb
   simp
   omega
theorem RowsG.snoc {w:World} {g:Option Nat} {vs:List Value} {ls:List (List Int)} {u:Value} {l:List Int} (h:RowsG w g vs ls) (hu:IntL w u l) (hs:u.ownBlock=none∨u.ownBlock≠g) (hlt:∀ b,u.ownBlock=some b→b < w.heap.size):RowsG w g (vs ++ [u]) (ls ++ [l]):=by
 refine ⟨h.1.snoc hu,fun x hx=>?_⟩
 rcases List.mem_append.1 hx with hx | hx
 ·exact h.2 x hx
 ·simp only [List.mem_singleton] at hx
  subst hx
  exact ⟨hs,hlt⟩
theorem wpList_app_row {P:Program} {w:World} {ops:Array Oper} {rest:List Oper} {o:Oper} {a:Act} {Q:Exit→Act→World→Prop} {t e:TypeId} {z:Value} {bytes:Nat}
  (E:ElemOf P t e z 1 bytes) (hgd:o.guard=none) (s x:Operand) (ho:o.op=.call { callee:=.builtin .append,args:=#[s,x],argTypes:=#[t,t] })
  (w0:World) (v:Value) (n:Nat) (vs:List Value) (hs:a.eval s=v) (base:Nat) (hown:w.ownsRow base e 1 v n vs) (hb:Below base w0 w) (hbase:base≤w.heap.size)
  (ls:List (List Int)) (hr:RowsG w v.ownBlock vs ls) (u:Value) (l:List Int) (hu:IntL w u l) (hsep:u.ownBlock=none∨u.ownBlock≠v.ownBlock) (hlt:∀ b,u.ownBlock=some b→b < w.heap.size)
  (bx c:Nat) (hx:a.eval x=.slice (some ⟨bx,0,none⟩) 1 c) (hbx:bx=w.heap.size) (hbytes:(n+1) * bytes≤140737488355328) (h63:n+1≤9223372036854775807)
  (h:∀ v' w',w'.ownsRow base e 1 v' (n+1) (vs ++ [u])→RowsG w' v'.ownBlock (vs ++ [u]) (ls ++ [l])→Below base w0 w'→base≤w'.heap.size→wpList P ops Q rest (a.put o.dst v') w') :
  wpList P ops Q (o :: rest) a (w.alloc (.cells #[u] e)):=by
 refine wpList_app_rawR E hgd s x ho v n vs hs base hown hbase [u] bx c hx hbx rfl (by intro y hy;simp only [List.mem_singleton] at hy;subst hy;exact hu.one) hbytes h63 ?_
 intro v' w' hown' hg hat
 have hk:Keeps w (w.alloc (.cells #[u] e)):=(Keeps.refl w).alloc _
 refine h v' w' hown' (RowsG.grown ((hr.snoc hu hsep hlt).keeps hk) hg (by simpa using hat)) ((hb.alloc hbase _).grown hg (by simp;omega) (fun k hk=>(hown.lt k hk).1)) (Nat.le_trans hbase (Nat.le_trans (by simp) hg.size))
theorem sep_new {w wo:World} {base e1 e2 s1 s2 n1 n2:Nat} {v u:Value} {xs ys:List Value} (hv:wo.ownsRow base e1 s1 v n1 xs) (hu:w.ownsRow wo.heap.size e2 s2 u n2 ys):(u.ownBlock=none∨u.ownBlock≠v.ownBlock)∧∀ b,u.ownBlock=some b→b < w.heap.size:=by
 refine ⟨?_,fun b hb=>(hu.lt b hb).2⟩
 cases hb:u.ownBlock with
 | none=>exact .inl rfl
 | some b=>
  right
  intro e
  have h1:=(hu.lt b hb).1
  have h2:=(hv.lt b e.symm).2
  omega
def OutRows (w:World) (r:List (List Int) × Int) (e:Ending) (w':World):Prop:=∃ ao cap b o,e=.returned (.tuple #[.slice ao r.1.length cap,.int .i64 r.2])∧Rows w' ao r.1 cap b o∧Keeps w w'
theorem OutRows.nil {w w':World} {r:List (List Int) × Int} {er:Int} (h:r=([],er)) (hk:Keeps w w'):OutRows w r (.returned (.tuple #[.slice none 0 0,.int .i64 er])) w':=by
 subst h;exact ⟨none,0,0,0,rfl,Rows.nil _,hk⟩
end Go.Proofs.YtoaidbhiciaeaaaGreat

end
section
namespace Go.Proofs.YtoaidbhiciaeaaaGreat
def voteK (f:Nat→Nat→Int) (S:Nat→Bool) (e:Nat):Nat→Int
 | 0=>0
 | k+1=>voteK f S e k+(if S k then f k e else 0)
def inA (f:Nat→Nat→Int) (n:Nat):Nat→Nat→Bool
 | 0=>fun e=>e == 0
 | k+1=>fun e=>inA f n k e || (decide (e < n) && decide (5000 < voteK f (inA f n k) e n))
def rkA (f:Nat→Nat→Int) (n:Nat):Nat→Nat→Int
 | 0=>fun e=>if e=0 then 0 else -1
 | k+1=>fun e=>if 0≤rkA f n k e then rkA f n k e else if inA f n (k+1) e=true then (k:Int)+1 else -1
def frA (f:Nat→Nat→Int) (n:Nat):Nat→Nat→Bool
 | 0=>inA f n 0
 | k+1=>fun e=>inA f n (k+1) e && !inA f n k e
section
variable {f:Nat→Nat→Int} {n:Nat}
theorem voteK_congr {S T:Nat→Bool} {e k:Nat} (h:∀ i < k,S i=T i):voteK f S e k=voteK f T e k:=by
 induction k with
 | zero=>rfl
 | succ k ih=>simp only [voteK];rw [ih fun i hi=>h i (by omega),h k (by omega)]
theorem voteK_bd (hf:∀ h e,0≤f h e∧f h e≤10000) (S:Nat→Bool) (e k:Nat):0≤voteK f S e k∧voteK f S e k≤10000 * k:=by
 induction k with
 | zero=>simp [voteK]
 | succ k ih=>
  simp only [voteK]
  have:=hf k e
  split <;> omega
theorem inA_succ {k e:Nat} (h:inA f n k e=true):inA f n (k+1) e=true:=by simp [inA,h]
theorem inA_lt (hn:1≤n) {k e:Nat} (h:inA f n k e=true):e < n:=by
 induction k with
 | zero=>simp [inA] at h;omega
 | succ k ih=>
  simp only [inA,Bool.or_eq_true,Bool.and_eq_true,decide_eq_true_eq] at h
  rcases h with h | h
  ·exact ih h
  ·exact h.1
theorem rkA_ge (k e:Nat):-1≤rkA f n k e:=by
 induction k with
 | zero=>simp only [rkA];split <;> omega
 | succ k ih=>
  simp only [rkA]
  split
  ·omega
  ·split <;> omega
theorem rkA_le (k e:Nat):rkA f n k e≤k:=by
 induction k with
 | zero=>simp only [rkA];split <;> omega
 | succ k ih=>
  simp only [rkA]
  split
  ·omega
  ·split <;> omega
theorem rkA_iff (k e:Nat):0≤rkA f n k e↔inA f n k e=true:=by
 induction k with
 | zero=>simp only [rkA,inA];split <;> simp_all
 | succ k ih=>
  simp only [rkA]
  split
  ·rename_i h
   exact ⟨fun _=>inA_succ (ih.1 h),fun _=>h⟩
  ·split
   ·rename_i h;exact ⟨fun _=>h,fun _=>by omega⟩
   ·rename_i h;exact ⟨fun h2=>absurd h2 (by decide),fun h2=>absurd h2 h⟩
theorem rkA_neg {k e:Nat} (h:inA f n k e=false):rkA f n k e=-1:=by
 have h1:=rkA_iff (f:=f) (n:=n) k e
 have h2:=rkA_ge (f:=f) (n:=n) k e
 rw [h] at h1
 simp at h1
 omega
theorem rkA_new {k e:Nat} (h:frA f n (k+1) e=true):rkA f n (k+1) e=(k:Int)+1:=by
 simp only [frA,Bool.and_eq_true,Bool.not_eq_true'] at h
 have h1:=rkA_neg h.2
 simp only [rkA,h1]
 rw [if_neg (by decide),if_pos h.1]
theorem rkA_old {k e:Nat} (h:frA f n (k+1) e=false):rkA f n (k+1) e=rkA f n k e:=by
 simp only [frA,Bool.and_eq_false_iff,Bool.not_eq_false'] at h
 simp only [rkA]
 split
 ·rfl
 ·rename_i h2
  rw [rkA_iff] at h2
  rw [if_neg (by rcases h with h | h;simp [h];exact absurd h h2),rkA_neg (by simpa using h2)]
theorem rk_within (k e:Nat):(0≤rkA f n (k+1) e∧rkA f n (k+1) e < (k:Int)+1)↔inA f n k e=true:=by
 cases h:frA f n (k+1) e with
 | true=>
  rw [rkA_new h]
  simp only [frA,Bool.and_eq_true,Bool.not_eq_true'] at h
  rw [h.2]
  simp
 | false=>
  rw [rkA_old h,← rkA_iff]
  have:=rkA_le (f:=f) (n:=n) k e
  omega
def cntA (S:Nat→Bool):Nat→Nat
 | 0=>0
 | k+1=>cntA S k+(if S k then 1 else 0)
theorem cntA_le (S:Nat→Bool) (k:Nat):cntA S k≤k:=by
 induction k with
 | zero=>simp [cntA]
 | succ k ih=>simp only [cntA];split <;> omega
theorem cntA_mono {S T:Nat→Bool} (h:∀ i,S i=true→T i=true) (k:Nat):cntA S k≤cntA T k:=by
 induction k with
 | zero=>simp [cntA]
 | succ k ih=>
  simp only [cntA]
  cases hs:S k with
  | true=>rw [h k hs];simp;omega
  | false=>simp;omega
theorem cntA_lt {S T:Nat→Bool} (h:∀ i,S i=true→T i=true) {e k:Nat} (he:e < k) (h1:S e=false) (h2:T e=true):cntA S k < cntA T k:=by
 induction k with
 | zero=>omega
 | succ k ih=>
  simp only [cntA]
  by_cases hek:e=k
  ·subst hek
   rw [h1,h2]
   have:=cntA_mono h e
   simp
   omega
  ·have:=ih (by omega)
   cases hs:S k with
   | true=>rw [h k hs];simp;omega
   | false=>simp;omega
theorem cnt_steps (hn:1≤n) {k:Nat} (h:∀ j≤k,∃ e,frA f n j e=true):k+1≤cntA (inA f n k) n:=by
 induction k with
 | zero=>
  have:0 < cntA (inA f n 0) n:=by
   have:=cntA_lt (S:=fun _=>false) (T:=inA f n 0) (fun i h=>by simp at h) (e:=0) (k:=n) (by omega) rfl (by simp [inA])
   omega
  omega
 | succ k ih=>
  have h1:=ih fun j hj=>h j (by omega)
  obtain ⟨e,he⟩:=h (k+1) (Nat.le_refl _)
  simp only [frA,Bool.and_eq_true,Bool.not_eq_true'] at he
  have:=cntA_lt (S:=inA f n k) (T:=inA f n (k+1)) (fun i hi=>inA_succ hi) (inA_lt hn he.1) he.2 he.1
  omega
theorem step_lt (hn:1≤n) {k:Nat} (h:∀ j≤k,∃ e,frA f n j e=true):k < n:=by
 have h1:=cnt_steps hn h
 have h2:=cntA_le (inA f n k) n
 omega
theorem stable {k:Nat} (h:∀ e,frA f n (k+1) e=false) {j:Nat} (hj:k≤j):inA f n j=inA f n k∧rkA f n j=rkA f n k:=by
 have h0:inA f n (k+1)=inA f n k:=by
  funext e
  have:=h e
  simp only [frA,Bool.and_eq_false_iff,Bool.not_eq_false'] at this
  cases h1:inA f n k e with
  | true=>exact inA_succ h1
  | false=>rcases this with h2 | h2;exact h2;rw [h1] at h2;cases h2
 induction hj with
 | refl=>exact ⟨rfl,rfl⟩
 | @step j hj ih=>
  have h1:inA f n (j+1)=inA f n k:=by
   funext e
   have h2:inA f n (j+1) e=(inA f n j e || (decide (e < n) && decide (5000 < voteK f (inA f n j) e n))):=rfl
   have h3:inA f n (k+1) e=(inA f n k e || (decide (e < n) && decide (5000 < voteK f (inA f n k) e n))):=rfl
   rw [h2,ih.1,← h3,h0]
  refine ⟨h1,?_⟩
  funext e
  rw [rkA_old]
  ·rw [ih.2]
  ·simp only [frA,Bool.and_eq_false_iff,Bool.not_eq_false']
   rw [h1,ih.1]
   cases inA f n k e <;> simp
theorem ends (hn:1≤n) {k:Nat} (h:∀ j < k,∃ e,frA f n j e=true) (hk:1≤k) (h2:∀ e,frA f n k e=false):rkA f n n=rkA f n (k - 1)∧inA f n n=inA f n (k - 1):=by
 obtain ⟨j,rfl⟩:∃ j,k=j+1:=⟨k - 1,by omega⟩
 have h1:=step_lt hn (k:=j) fun i hi=>h i (by omega)
 have:=stable h2 (j:=n) (by omega)
 exact ⟨this.2,this.1⟩
end
def encB (S:Nat→Bool):Nat→Nat
 | 0=>0
 | k+1=>encB S k+(if S k then 2 ^ k else 0)
theorem encB_lt (S:Nat→Bool) (k:Nat):encB S k < 2 ^ k:=by
 induction k with
 | zero=>simp [encB]
 | succ k ih=>simp only [encB,Nat.pow_succ];split <;> omega
theorem encB_bit (S:Nat→Bool) (k i:Nat):(encB S k).testBit i=(decide (i < k) && S i):=by
 induction k with
 | zero=>simp [encB]
 | succ k ih=>
  simp only [encB]
  cases hs:S k with
  | false=>
   simp only [Bool.false_eq_true,if_false,Nat.add_zero,ih]
   by_cases hi:i=k
   ·subst hi;simp [hs]
   ·have:decide (i < k+1)=decide (i < k):=by simp;omega
    rw [this]
  | true=>
   simp only [if_true]
   have hlt:=encB_lt S k
   rcases Nat.lt_trichotomy i k with h | rfl | h
   ·rw [Nat.add_comm,Nat.testBit_two_pow_add_gt h,ih]
    have:decide (i < k+1)=decide (i < k):=by simp;omega
    rw [this]
   ·rw [Nat.add_comm,Nat.testBit_two_pow_add_eq,ih]
    simp [hs]
   ·rw [Nat.testBit_lt_two_pow]
    ·have:decide (i < k+1)=false:=by simp;omega
     rw [this];rfl
    ·have h2:2 ^ (k+1)≤2 ^ i:=Nat.pow_le_pow_right (by omega) (by omega)
     rw [Nat.pow_succ] at h2
     omega
theorem encB_or (S T:Nat→Bool) (k:Nat):encB S k ||| encB T k=encB (fun i=>S i || T i) k:=by
 apply Nat.eq_of_testBit_eq
 intro i
 rw [Nat.testBit_or,encB_bit,encB_bit,encB_bit]
 cases decide (i < k) <;> simp
theorem encB_zero (S:Nat→Bool) (k:Nat):encB S k=0↔∀ i < k,S i=false:=by
 constructor
 ·intro h i hi
  have:=encB_bit S k i
  rw [h] at this
  simp [hi] at this
  exact this
 ·intro h
  induction k with
  | zero=>rfl
  | succ k ih=>simp only [encB];rw [ih fun i hi=>h i (by omega),h k (by omega)];rfl
theorem encB_shift (S:Nat→Bool) (k h:Nat) (hh:h < k):encB S k / 2 ^ h % 2=if S h then 1 else 0:=by
 have:=encB_bit S k h
 rw [Nat.testBit_eq_decide_div_mod_eq] at this
 simp [hh] at this
 cases hs:S h with
 | true=>rw [hs] at this;simpa using this
 | false=>rw [hs] at this;simp at this;simp;omega
end Go.Proofs.YtoaidbhiciaeaaaGreat

end
section
namespace Go.Proofs.YtoaidbhiciaeaaaGreat
theorem and16 (a b:Nat) (ha:a < 65536) (hb:b < 65536):bits .and .u16 (a:Int) (b:Int)=((a &&& b:Nat):Int):=by
 have hx:a &&& b < 2 ^ 16:=Nat.and_lt_two_pow _ (by omega)
 have h1:(BitVec.ofInt 16 (a:Int)).toNat=a:=by
  rw [BitVec.ofInt_natCast,BitVec.toNat_ofNat];exact Nat.mod_eq_of_lt (by omega)
 have h2:(BitVec.ofInt 16 (b:Int)).toNat=b:=by
  rw [BitVec.ofInt_natCast,BitVec.toNat_ofNat];exact Nat.mod_eq_of_lt (by omega)
 show IntKind.u16.wrap ((BitVec.ofInt 16 (a:Int) &&& BitVec.ofInt 16 (b:Int)).toNat:Int)=_
 rw [BitVec.toNat_and,h1,h2,show IntKind.u16.wrap _=_ from rfl]
 simp [IntKind.wrap,IntKind.bits,IntKind.signed]
 omega
theorem or16 (a b:Nat) (ha:a < 65536) (hb:b < 65536):bits .or .u16 (a:Int) (b:Int)=((a ||| b:Nat):Int):=by
 have hx:a ||| b < 2 ^ 16:=Nat.or_lt_two_pow (by omega) (by omega)
 have h1:(BitVec.ofInt 16 (a:Int)).toNat=a:=by
  rw [BitVec.ofInt_natCast,BitVec.toNat_ofNat];exact Nat.mod_eq_of_lt (by omega)
 have h2:(BitVec.ofInt 16 (b:Int)).toNat=b:=by
  rw [BitVec.ofInt_natCast,BitVec.toNat_ofNat];exact Nat.mod_eq_of_lt (by omega)
 show IntKind.u16.wrap ((BitVec.ofInt 16 (a:Int) ||| BitVec.ofInt 16 (b:Int)).toNat:Int)=_
 rw [BitVec.toNat_or,h1,h2,show IntKind.u16.wrap _=_ from rfl]
 simp [IntKind.wrap,IntKind.bits,IntKind.signed]
 omega
theorem encB_lt12 (S:Nat→Bool) {n:Nat} (hn:n≤12):encB S n < 4096:=Nat.lt_of_lt_of_le (encB_lt S n) (by have:=Nat.pow_le_pow_right (n:=2) (by omega) hn;simpa using this)
theorem castDiv (a h:Nat):((a:Nat):Int) / 2 ^ h=((a / 2 ^ h:Nat):Int):=by
 rw [Int.natCast_ediv,Int.natCast_pow];rfl
theorem bit16 (S:Nat→Bool) {n h:Nat} (hn:n≤12) (hh:h < n):bits .and .u16 ((encB S n:Nat) / 2 ^ h) 1=if S h then 1 else 0:=by
 have h1:=encB_lt12 S hn
 have h2:encB S n / 2 ^ h < 65536:=Nat.lt_of_le_of_lt (Nat.div_le_self _ _) (by omega)
 have h3:=and16 (encB S n / 2 ^ h) 1 h2 (by omega)
 rw [castDiv]
 rw [show ((1:Nat):Int)=1 from rfl] at h3
 rw [h3,Nat.and_one_is_mod,encB_shift S n h hh]
 split <;> rfl
theorem bit16_yes {S:Nat→Bool} {n h:Nat} (hn:n≤12) (hh:h < n) (hs:S h=true):bits .and .u16 ((encB S n:Nat) / 2 ^ h) 1=1:=by rw [bit16 S hn hh,hs];rfl
theorem bit16_no {S:Nat→Bool} {n h:Nat} (hn:n≤12) (hh:h < n) (hs:S h=false):bits .and .u16 ((encB S n:Nat) / 2 ^ h) 1=0:=by rw [bit16 S hn hh,hs];rfl
theorem orEnc (S T:Nat→Bool) {n:Nat} (hn:n≤12):bits .or .u16 (encB S n:Nat) (encB T n:Nat)=((encB (fun i=>S i || T i) n:Nat):Int):=by
 have h1:=encB_lt12 S hn
 have h2:=encB_lt12 T hn
 rw [or16 _ _ (by omega) (by omega),encB_or]
theorem orBit {S:Nat→Bool} {e:Nat} (he:e < 12) (hs:S e=true):bits .or .u16 (encB S e:Nat) (2 ^ e)=((encB S (e+1):Nat):Int):=by
 have h1:=encB_lt12 S (n:=e) (by omega)
 have h2:2 ^ e < 4096:=by have:=Nat.pow_lt_pow_right (a:=2) (by omega) he;simpa using this
 have h3:=or16 (encB S e) (2 ^ e) (by omega) (by omega)
 rw [Int.natCast_pow] at h3
 rw [show ((2:Nat):Int)=2 from rfl] at h3
 rw [h3]
 congr 1
 simp only [encB,hs,if_true]
 have:=Nat.two_pow_add_eq_or_of_lt (encB_lt S e) 1
 rw [Nat.mul_one] at this
 rw [Nat.or_comm,← this,Nat.add_comm]
theorem orBit' {S:Nat→Bool} {e:Nat} (he:e < 12) (hs:S e=true):bits .or .u16 (encB S e:Nat) (IntKind.u16.wrap (2 ^ e))=((encB S (e+1):Nat):Int):=by
 have h2:2 ^ e < 4096:=by have:=Nat.pow_lt_pow_right (a:=2) (by omega) he;simpa using this
 have h3:IntKind.u16.wrap ((2:Int) ^ e)=2 ^ e:=by
  have e1:((2:Int) ^ e)=((2 ^ e:Nat):Int):=by rw [Int.natCast_pow];rfl
  rw [e1,IntKind.wrap_u16]
  generalize 2 ^ e=p at h2
  omega
 rw [h3]
 exact orBit he hs
end Go.Proofs.YtoaidbhiciaeaaaGreat

end
section
namespace Go.Proofs.YtoaidbhiciaeaaaGreat
open Go.RowKit
def matF (f:Nat→Nat→Int) (n:Nat):List (List Int):=(List.range n).map fun (h:Nat)=>(List.range n).map fun (e:Nat)=>f h e
theorem matF_len (f:Nat→Nat→Int) (n:Nat):(matF f n).length=n:=by simp [matF]
theorem matF_get (f:Nat→Nat→Int) (n:Nat) (k:Nat) (h:k < (matF f n).length):(matF f n)[k]=(List.range n).map fun (e:Nat)=>f k e:=by simp [matF]
theorem matF_at {w:World} {ao:Option Addr} {f:Nat→Nat→Int} {n cap b o:Nat} (H:Rows w ao (matF f n) cap b o) (i:Nat) (hi:i < n) :
  ∃ ao2 cap2 b2 o2,w.cell? ⟨b,o+i,none⟩=some (.slice ao2 n cap2)∧n≤cap2∧cap2≤9223372036854775807∧
   (∀ k,k < n→w.cell? ⟨b2,o2+k,none⟩=some (.int .i64 (f i k)))∧
   (∀ k,k < n→∀ w',(Instr.indexAt 69 (.slice ao2 n cap2) (.int .i64 (k:Int))).run Tryz.prog w'=.ok (.pointer (some ⟨b2,o2+k,none⟩)) w'):=by
 obtain ⟨ao2,cap2,b2,o2,h1,h2⟩:=H.at i (by rw [matF_len];exact hi)
 rw [matF_get] at h1 h2
 have hl:((List.range n).map fun (e:Nat)=>f i e).length=n:=by simp
 have hle:=h2.le
 have hcap:=h2.cap
 rw [hl] at h1 hle
 refine ⟨ao2,cap2,b2,o2,h1,hle,hcap,fun k hk=>?_,fun k hk=>?_⟩
 ·have:=h2.int k (by rw [hl];exact hk)
  simpa using this
 ·have:=h2.at1 Tryz.underlying69 Tryz.sizeOf3 k (by rw [hl];exact hk)
  rw [hl] at this
  exact this
theorem matF_ix {w:World} {ao:Option Addr} {f:Nat→Nat→Int} {n cap b o:Nat} (H:Rows w ao (matF f n) cap b o) (i:Nat) (hi:i < n) :
  ∀ w',(Instr.indexAt 239 (.slice ao n cap) (.int .i64 (i:Int))).run Tryz.prog w'=.ok (.pointer (some ⟨b,o+i,none⟩)) w':=by
 have:=H.at1 Tryz.underlying239 Tryz.sizeOf69 i (by rw [matF_len];exact hi)
 rw [matF_len] at this
 exact this
set_option maxRecDepth 100000 in
theorem votes_any (f:Nat→Nat→Int) (n:Nat) (hn:n≤12) (hf:∀ h e,0≤f h e∧f h e≤10000) (S:Nat→Bool) (e:Nat) (he:e < n) (ao:Option Addr) (cap b o:Nat) (w:World) (H:Rows w ao (matF f n) cap b o) :
  Calls Tryz.prog 196 #[.slice ao n cap,.int .u16 (encB S n:Nat),.int .i64 (e:Int)] w fun en w'=>en=.returned (.int .i64 (voteK f S e n))∧w'=w:=by
 have hcap:=H.cap
 have hle:=H.le
 rw [matF_len] at hle
 have HH:=Lib.hid H
 have HF:=Lib.hid hf
 clear H hf
 go_enter Tryz.func196,Tryz.ntmps196
 go_wp2_with fail
 go_loopw [7,12] (fun vs vi wr=>∃ (k:Nat) (s:Int),k≤n∧vi=.int .i64 k∧vs=.int .i64 s∧0≤s∧s≤120000∧Hid (s=voteK f S e k)∧wr=w) (fun _ vi _=>n - (intOf vi).toNat)
 case atStart=>exact ⟨0,0,Nat.zero_le _,rfl,rfl,by omega,by omega,Lib.hid rfl,rfl⟩
 case round=>
  obtain ⟨k,s,hk,rfl,rfl,h0,h1,HS,rfl⟩:=hrel
  by_cases hlt:k < n
  ·obtain ⟨ao2,cap2,b2,o2,c0,h2,h3,h4,h5⟩:=matF_at HH.out k hlt
   have hix:=matF_ix HH.out k hlt
   have hiy:=h5 e he
   have c1:=h4 e he
   clear h4 h5
   obtain ⟨x,hx⟩:∃ x,f k e=x:=⟨_,rfl⟩
   have hxb:=HF.out k e
   rw [hx] at c1 hxb
   obtain ⟨hx0,hx1⟩:=hxb
   cases hs:S k with
   | true=>
    have hb:=bit16_yes hn hlt hs
    have HN:Hid (s+x=voteK f S e (k+1)):=Lib.hid (by rw [HS.out];simp only [voteK];rw [hs,hx];rfl)
    have hsn:s+x≤120000:=by
     rw [HN.out]
     have:=(voteK_bd HF.out S e (k+1)).2
     omega
    clear hs hx
    go_wp2_with fail
    go_roundw
    case rel=>exact ⟨k+1,s+x,by omega,by go_num,rfl,by omega,by omega,HN,trivial⟩
    case measure=>simp [intOf];omega
   | false=>
    have hb:=bit16_no hn hlt hs
    have HN:Hid (s=voteK f S e (k+1)):=Lib.hid (by rw [HS.out];simp only [voteK];rw [hs];simp)
    clear hs hx
    go_wp2_with fail
    go_roundw
    case rel=>exact ⟨k+1,s,by omega,by go_num,rfl,by omega,by omega,HN,trivial⟩
    case measure=>simp [intOf];omega
  ·obtain rfl:k=n:=by omega
   go_wp2_with fail
   go_ret
   rw [HS.out]
   exact ⟨rfl,rfl⟩
end Go.Proofs.YtoaidbhiciaeaaaGreat

end
section
namespace Go.Proofs.YtoaidbhiciaeaaaGreat
open Go.RowKit Go.Shelf
attribute [local go_sem] Oper.semAt_some
theorem Rows.of_cells {w w':World} {ao:Option Addr} {ls:List (List Int)} {cap b o:Nat} (h:Rows w ao ls cap b o) (hc:∀ p v,w.cell? p=some v→w'.cell? p=some v):Rows w' ao ls cap b o:=by
 obtain ⟨vs,h1,h2⟩:=h
 refine ⟨vs,⟨h1.len,h1.le,h1.nocap,h1.cap,h1.addr,fun j u hu=>hc _ _ (h1.cell j u hu)⟩,h2.1,fun i a1 a2=>?_⟩
 obtain ⟨ao2,cap2,b2,o2,e,hs⟩:=h2.2 i a1 a2
 exact ⟨ao2,cap2,b2,o2,e,hs.len,hs.le,hs.nocap,hs.cap,hs.addr,fun j u hu=>hc _ _ (hs.cell j u hu)⟩
def stepsL (f:Nat→Nat→Int) (n k:Nat):List (Nat × Nat):=(List.range k).map fun i=>(i,encB (frA f n i) n)
theorem stepsL_snoc (f:Nat→Nat→Int) (n k:Nat):stepsL f n (k+1)=stepsL f n k ++ [(k,encB (frA f n k) n)]:=by simp [stepsL,List.range_succ]
theorem stepsL_len (f:Nat→Nat→Int) (n k:Nat):(stepsL f n k).length=k:=by simp [stepsL]
def StepsS (f:Nat→Nat→Int) (n:Nat) (ys:List (Nat × Nat)):Prop:=∃ k,ys=stepsL f n k∧1≤k∧(∀ j < k,∃ e,frA f n j e=true)∧∀ e,frA f n k e=false
theorem encB_one {n:Nat} (hn:1≤n) {S:Nat→Bool} (h:∀ i,S i=(i == 0)):encB S n=1:=by
 induction n with
 | zero=>omega
 | succ k ih=>
  simp only [encB]
  rw [h k]
  cases k with
  | zero=>rfl
  | succ k=>rw [ih (by omega)];rfl
theorem frA_lt {f:Nat→Nat→Int} {n:Nat} (hn:1≤n) {k e:Nat} (h:frA f n k e=true):e < n:=by
 cases k with
 | zero=>exact inA_lt hn h
 | succ k=>simp only [frA,Bool.and_eq_true] at h;exact inA_lt hn h.1
theorem encB_empty {f:Nat→Nat→Int} {n:Nat} (hn:1≤n) {k:Nat} (h:¬ ∃ e,frA f n k e=true):encB (frA f n k) n=0:=
 (encB_zero _ _).2 fun i _=>by
  cases h1:frA f n k i with
  | false=>rfl
  | true=>exact absurd ⟨i,h1⟩ h
theorem encB_some {f:Nat→Nat→Int} {n:Nat} (hn:1≤n) {k:Nat} (h:∃ e,frA f n k e=true):encB (frA f n k) n≠0:=fun h0=>by
 obtain ⟨e,he⟩:=h
 have:=(encB_zero _ _).1 h0 e (frA_lt hn he)
 rw [he] at this;cases this
theorem encB_next (f:Nat→Nat→Int) (n k:Nat):encB (fun i=>inA f n k i || frA f n (k+1) i) n=encB (inA f n (k+1)) n:=by
 congr 1
 funext i
 simp only [frA]
 cases h:inA f n k i with
 | true=>simp [inA_succ h]
 | false=>simp
theorem steps_in (F:Fence) (n:Nat) (h1:F.fn 195) (hro:F.round=none) (ao:Option Addr) (len cap:Nat) (w:World) :
  CallsIn F n Tryz.prog 195 #[.slice ao len cap] w fun en w'=>en=.returned (.func (.func 198) #[] #[.pointer (some ⟨w.heap.size,0,none⟩)])∧
   w'=w.alloc (.cells #[.slice ao len cap] 239):=by
 refine callsIn_of_wp Tryz.func195 rfl h1 ?_ hro
 simp only [Tryz.ntmps195,List.size_toArray,List.length_cons,List.length_nil,Nat.reduceAdd,Nat.reduceSub,Array.replicate_succ,Array.replicate_zero,List.push_toArray,List.append_toArray,List.nil_append,List.cons_append]
 gi_wp2
 go_ret
 exact ⟨rfl,rfl⟩
set_option maxRecDepth 100000 in
theorem steps1_in (n':Nat) (hn':2≤n') (l B0 N0 lo hi:Nat) (ao:Option Addr) (f:Nat→Nat→Int) (n cap b o:Nat) (hn1:1≤n) (hn:n≤12) (hf:∀ h e,0≤f h e∧f h e≤10000) (J Jx:List (Nat × Nat)→World→Prop) (wb:World) (hR:Rows wb ao (matF f n) cap b o)
  (hB0:B0 < N0) (hhi:hi≤B0) (hlo:wb.heap.size≤lo) (hlN:lo≤N0)
  (hY:∀ pre x W,J pre W→pre.length < n→YieldAt Fence.wide (n' - 1) Tryz.prog l #[.int .i64 (x.1:Nat),.int .u16 (x.2:Nat)] W fun en W'=>
   (en=.returned (.bool true)∧J (pre ++ [x]) W'∧KeepBut N0 lo hi W W')∨(en=.returned (.bool false)∧Jx (pre ++ [x]) W'))
  (W:World) (hN:N0≤W.heap.size) (hk:Keeps wb W) (c0:W.cell? ⟨B0,0,none⟩=some (.slice ao n cap)) (h0:J [] W) :
  CallsIn Fence.wide n' Tryz.prog 198 #[.func (.yield l) #[] #[],.pointer (some ⟨B0,0,none⟩)] W fun en W'=>(∃ v,en=.returned v)∧
   ((∃ ys,StepsS f n ys∧J ys W')∨(∃ pre,True∧Jx pre W')):=by
 have hcap:=hR.cap
 have hle:=hR.le
 rw [matF_len] at hle
 have HR:=Lib.hid hR
 have HY:=Lib.hid hY
 have HF:=Lib.hid hf
 have HK:=Lib.hid hk
 have HC0:=Lib.hid c0
 have HRW:Hid (∀ W',KeepBut N0 lo hi W W'→Rows W' ao (matF f n) cap b o):=Lib.hid (fun W' h=>HR.out.of_cells fun p v hp=>h.cell (by have:=World.block_lt_of_cell? _ _ hp;omega) (.inl (by have:=World.block_lt_of_cell? _ _ hp;omega)) (HK.out.cell hp))
 have hfv:Fence.wide.fn 196:=trivial
 have hd1:1≤n':=by omega
 clear hR hY hf hk c0
 refine callsIn_of_wp Tryz.func198 rfl trivial ?_ rfl
 simp only [Tryz.ntmps198,List.size_toArray,List.length_cons,List.length_nil,Nat.reduceAdd,Nat.reduceSub,Array.replicate_succ,Array.replicate_zero,List.push_toArray,List.append_toArray,List.nil_append,List.cons_append]
 gi_wp2
 gi_loopw [3,4,5] (fun va vf vi wr=>∃ k:Nat,k≤n∧vi=.int .i64 k∧va=.int .u16 (encB (inA f n k) n:Nat)∧vf=.int .u16 (encB (frA f n k) n:Nat)∧Hid (∀ j < k,∃ e,frA f n j e=true)∧Hid (J (stepsL f n k) wr∧KeepBut N0 lo hi W wr∧W.heap.size≤wr.heap.size)) (fun _ _ vi _=>n - (intOf vi).toNat)
 case atStart=>
  have h1:=encB_one hn1 (S:=inA f n 0) fun i=>rfl
  have h2:=encB_one hn1 (S:=frA f n 0) fun i=>rfl
  exact ⟨0,Nat.zero_le _,rfl,by rw [h1];rfl,by rw [h2];rfl,Lib.hid fun j hj=>absurd hj (Nat.not_lt_zero _),Lib.hid ⟨h0,KeepBut.refl _ _ _ _,Nat.le_refl _⟩⟩
 case round=>
  obtain ⟨k,hk,rfl,rfl,rfl,HE,HW⟩:=hrel
  by_cases hex:∃ e,frA f n k e=true
  ·have hne:=encB_some hn1 hex
   have hkn:k < n:=step_lt hn1 (k:=k) fun j hj=>by
    by_cases hjk:j=k
    ·subst hjk;exact hex
    ·exact HE.out j (by omega)
   have HE2:Hid (∀ j < k+1,∃ e,frA f n j e=true):=Lib.hid fun j hj=>by
    by_cases hjk:j=k
    ·subst hjk;exact hex
    ·exact HE.out j (by omega)
   obtain ⟨fn,tmps,assign,body,hy,hRd⟩:=HY.out _ (k,encB (frA f n k) n) _ HW.out.1 (by rw [stepsL_len];exact hkn)
   have HRd:=Lib.hid hRd
   have hz:(((encB (frA f n k) n:Nat):Int) != 0)=true:=by simpa using hne
   clear hRd hex
   gi_wp2
   first | refine HRd.out.mono ?_ | refine ⟨fun _=>by omega,HRd.out.mono ?_⟩
   rintro en W3 (⟨rfl,hJ3,hk3⟩ | ⟨rfl,hJx3⟩)
   ·have HJ3:Hid (J (stepsL f n (k+1)) W3):=Lib.hid (by rw [stepsL_snoc];exact hJ3)
    have HKW3:=Lib.hid (HW.out.2.1.trans hk3)
    have HSZ:=Lib.hid (Nat.le_trans HW.out.2.2 hk3.size)
    have c3:=HKW3.out.cell (p:=⟨B0,0,none⟩) hB0 (.inr hhi) HC0.out
    have HV:Hid (∀ j,j < n→CallsIn Fence.wide (n' - 1) Tryz.prog 196 #[.slice ao n cap,.int .u16 (encB (inA f n k) n:Nat),.int .i64 (j:Int)] W3 fun en w'=>en=.returned (.int .i64 (voteK f (inA f n k) j n))∧w'=W3):=Lib.hid fun j hj=>callsIn_wide.2 (votes_any f n hn HF.out (inA f n k) j hj ao cap b o W3 (HRW.out _ HKW3.out))
    clear hJ3 hk3
    gi_wp2
    gi_loopw [4,20] (fun vf vj wx=>∃ j:Nat,j≤n∧vj=.int .i64 j∧vf=.int .u16 (encB (frA f n (k+1)) j:Nat)∧wx=W3) (fun _ vj _=>n - (intOf vj).toNat)
    case atStart=>exact ⟨0,Nat.zero_le _,rfl,rfl,rfl⟩
    case round=>
     obtain ⟨j,hj,rfl,rfl,rfl⟩:=hrel
     by_cases hlj:j < n
     ·cases hin:inA f n k j with
      | true=>
       have hb:=bit16_yes hn hlj hin
       have hfr:frA f n (k+1) j=false:=by simp [frA,hin]
       have he:encB (frA f n (k+1)) (j+1)=encB (frA f n (k+1)) j:=by simp [encB,hfr]
       have HEE:=Lib.hid he
       clear he hfr hin
       gi_wp2
       go_roundw
       case rel=>exact ⟨j+1,by omega,by go_num,by rw [HEE.out],trivial⟩
       case measure=>simp [intOf];omega
      | false=>
       have hb:=bit16_no hn hlj hin
       obtain ⟨v,hv⟩:∃ v,voteK f (inA f n k) j n=v:=⟨_,rfl⟩
       have HVJ:=HV.out j hlj
       rw [hv] at HVJ
       have HVJ:=Lib.hid HVJ
       by_cases h5:5000 < v
       ·have h5':decide (5000 < v)=true:=decide_eq_true h5
        have hfr:frA f n (k+1) j=true:=by simp [frA,inA,hin,hv,h5,hlj]
        have hor:=orBit' (S:=frA f n (k+1)) (e:=j) (by omega) hfr
        clear hfr hin hv h5
        gi_wp2_with (gi_at_call 196;refine HVJ.out.mono ?_;rintro en w4 ⟨rfl,rfl⟩)
        go_roundw
        case rel=>exact ⟨j+1,by omega,by go_num,by first | rfl | rw [hor],trivial⟩
        case measure=>simp [intOf];omega
       ·have h5':decide (5000 < v)=false:=decide_eq_false h5
        have hfr:frA f n (k+1) j=false:=by simp [frA,inA,hin,hv,h5]
        have he:encB (frA f n (k+1)) (j+1)=encB (frA f n (k+1)) j:=by simp [encB,hfr]
        have HEE:=Lib.hid he
        clear he hfr hin hv h5
        gi_wp2_with (gi_at_call 196;refine HVJ.out.mono ?_;rintro en w4 ⟨rfl,rfl⟩)
        go_roundw
        case rel=>exact ⟨j+1,by omega,by go_num,by rw [HEE.out],trivial⟩
        case measure=>simp [intOf];omega
     ·obtain rfl:j=n:=by omega
      have hor:=orEnc (inA f j k) (frA f j (k+1)) hn
      rw [encB_next] at hor
      gi_wp2
      go_roundw
      case rel=>exact ⟨k+1,by omega,by go_num,rfl,rfl,HE2,Lib.hid ⟨HJ3.out,HKW3.out,HSZ.out⟩⟩
      case measure=>simp [intOf];omega
   ·gi_wp2
    go_end0
    exact ⟨⟨_,rfl⟩,.inr ⟨_,trivial,hJx3⟩⟩
  ·have hz:=encB_empty hn1 hex
   have hk1:1≤k:=by
    rcases Nat.eq_zero_or_pos k with rfl | h
    ·exact absurd ⟨0,rfl⟩ hex
    ·exact h
   have HX:Hid (StepsS f n (stepsL f n k)):=Lib.hid ⟨k,rfl,hk1,HE.out,fun e=>by
    cases h1:frA f n k e with
    | false=>rfl
    | true=>exact absurd ⟨e,h1⟩ hex⟩
   clear hex
   gi_wp2
   refine ⟨fun _ h=>(by cases h),?_⟩
   gi_wp2
   go_end0
   exact ⟨⟨_,rfl⟩,.inl ⟨_,HX.out,HW.out.1⟩⟩
end Go.Proofs.YtoaidbhiciaeaaaGreat

end
