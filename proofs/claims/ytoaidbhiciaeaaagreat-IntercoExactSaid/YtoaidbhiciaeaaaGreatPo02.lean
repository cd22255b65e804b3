/- Walks and plain facts that the claim rests on (MapV, Sorted, Keys, HolTotP, HolRAt, AtP). No condition. -/
import Derived.Test.YtoaidbhiciaeaaaGreatPo01
import Derived.Maps.OwnOps
import Derived.Maps.OwnSet
import Derived.Maps.Views
import Derived.Shelf.SlGeneric
import Derived.Shelf.SlIterI.Nil
import Derived.Shelf.SortM.Plain
import Derived.Shelf.SortM.SortNone
import Derived.Ground.GgzProg
import Derived.Ground.SlgmProg
import Derived.Test.YtoaidbhiciaeaaaGreatProg
import Derived.Deep.QuietTactic
import Derived.BigQuiet
import Derived.IntWalk
set_option linter.unusedSimpArgs false
set_option linter.unusedVariables false
set_option maxHeartbeats 16000000
section
namespace Go.Proofs.YtoaidbhiciaeaaaGreat
open Go.RowKit Go.Maps
structure KeyEnc (P:Program) (k:TypeId) (α:Type) where
  enc:α→Value
  lit:α→Lit
  ok:α→Prop
  keyed:Keyed P k
  key:∀ a,ok a→keyOf P k (enc a)=some (lit a)
  inj:∀ a b,ok a→ok b→enc a=enc b→a=b
theorem KeyEnc.lit_inj {P:Program} {k:TypeId} {α:Type} (K:KeyEnc P k α) {a b:α} (ha:K.ok a) (hb:K.ok b) (h:K.lit a=K.lit b):a=b:=
  K.inj a b ha hb (K.keyed.inj (K.key a ha) (h ▸ K.key b hb))
def hold (v:Value):Option (DataW Value × List MemPlace):=some (.held v,[])
def VMap {P:Program} {k:TypeId} {α:Type} (K:KeyEnc P k α) (w:World) (b n:Nat) (f:α→Option Value):Prop:=
  ∃ D:DataW Value,w.ownsMap P k hold b n D∧∀ a,K.ok a→has D (K.lit a)=(f a).isSome∧∀ zd,D.atKey (K.lit a) zd=((f a).map DataW.held).getD zd
variable {P:Program} {k:TypeId} {α:Type} {K:KeyEnc P k α} {w:World} {b n:Nat} {f:α→Option Value}
theorem VMap.made (K:KeyEnc P k α) (w:World):VMap K (w.alloc (.map #[] 0)) w.heap.size 0 (fun _=>none):=
  ⟨.map [],World.ownsMap_made w P k hold,fun _ _=>⟨rfl,fun _=>rfl⟩⟩
theorem VMap.lt (h:VMap K w b n f):b < w.heap.size:=by obtain ⟨D,h,_⟩:=h;exact h.lt
theorem VMap.alloc (h:VMap K w b n f) (o:Obj):VMap K (w.alloc o) b n f:=by obtain ⟨D,h,h2⟩:=h;exact ⟨D,h.alloc o,h2⟩
theorem VMap.drewN (h:VMap K w b n f) (q:Nat):VMap K (w.drewN q) b n f:=by obtain ⟨D,h,h2⟩:=h;exact ⟨D,h,h2⟩
theorem VMap.kept {w':World} {row:Option Nat} (h:VMap K w b n f) (hg:w.grownBy w' row) (hne:some b≠row):VMap K w' b n f:=by obtain ⟨D,h,h2⟩:=h;exact ⟨D,h.kept hg hne,h2⟩
theorem VMap.keeps {w':World} (h:VMap K w b n f) (hk:Keeps w w'):VMap K w' b n f:=by
  obtain ⟨D,⟨es,clock,hb,F,hs,hD⟩,h2⟩:=h
  exact ⟨D,⟨es,clock,(hk.block b (Array.getElem?_eq_some_iff.1 hb).1).trans hb,F,hs,hD⟩,h2⟩
theorem VMap.mono (h:VMap K w b n f) {n':Nat} (hn:n≤n'):VMap K w b n' f:=by obtain ⟨D,h,h2⟩:=h;exact ⟨D,h.mono hn,h2⟩
theorem VMap.look {t e:TypeId} (h:VMap K w b n f) (ht:P.underlying t=some (.map k e)) {z:Value} (hz:∀ w,(zeroValue e).run P w=.ok z w) {a:α} (ha:K.ok a) :
    ∀ w',w'=w→(Instr.lookup t (.map (some b)) (K.enc a) false).run P w'=.ok ((f a).getD z) w':=by
  rintro w' rfl
  obtain ⟨D,⟨es,clock,hb,F,_,rfl⟩,h2⟩:=h
  obtain ⟨h3,h4⟩:=h2 a ha
  rcases Maps.fit_look false K.keyed ht (hz w') hb F (K.key a ha) with ⟨hrun,_,hat⟩ | ⟨e0,y,_,_,hrun,hRv,hat,_⟩
  · have hn:f a=none:=by
      cases hf:f a with
      | none=>rfl
      | some u=>
        rw [hf] at h4
        have e1:=h4 DataW.nil
        rw [hat] at e1
        cases e1
    rw [hn];simpa using hrun
  · have e1:=hat DataW.nil
    cases hRv
    rw [h4] at e1
    cases hf:f a with
    | none=>rw [hf] at e1;cases e1
    | some u=>
      rw [hf] at e1
      simp only [Option.map_some,Option.getD_some,DataW.held.injEq] at e1
      subst e1
      simpa using hrun
theorem VMap.lookOk {t e:TypeId} (h:VMap K w b n f) (ht:P.underlying t=some (.map k e)) {z:Value} (hz:∀ w,(zeroValue e).run P w=.ok z w) {a:α} (ha:K.ok a) :
    ∀ w',w'=w→(Instr.lookup t (.map (some b)) (K.enc a) true).run P w'=.ok (.tuple #[(f a).getD z,.bool (f a).isSome]) w':=by
  rintro w' rfl
  obtain ⟨D,⟨es,clock,hb,F,_,rfl⟩,h2⟩:=h
  obtain ⟨h3,h4⟩:=h2 a ha
  rcases Maps.fit_look true K.keyed ht (hz w') hb F (K.key a ha) with ⟨hrun,_,hat⟩ | ⟨e0,y,_,_,hrun,hRv,hat,_⟩
  · have hn:f a=none:=by
      cases hf:f a with
      | none=>rfl
      | some u=>
        rw [hf] at h4
        have e1:=h4 DataW.nil
        rw [hat] at e1
        cases e1
    rw [hn];simpa using hrun
  · have e1:=hat DataW.nil
    cases hRv
    rw [h4] at e1
    cases hf:f a with
    | none=>rw [hf] at e1;cases e1
    | some u=>
      rw [hf] at e1
      simp only [Option.map_some,Option.getD_some,DataW.held.injEq] at e1
      subst e1
      simpa using hrun
theorem VMap.store {t e:TypeId} (h:VMap K w b n f) (ht:P.underlying t=some (.map k e)) (hn:n < maxLen) {a:α} (ha:K.ok a) (v:Value) {g:α→Option Value} (hg1:g a=some v) (hg2:∀ c,K.ok c→c≠a→g c=f c) :
    ∃ w',(Instr.mapUpdate t (.map (some b)) (K.enc a) v).run P w=.ok () w'∧VMap K w' b (n+1) g∧w.grownBy w' (some b):=by
  obtain ⟨D,h,h2⟩:=h
  obtain ⟨w',hr,ho,hgr⟩:=h.update K.keyed ht hn (K.key a ha) (show hold v=some (.held v,[]) from rfl)
  have hM:IsMap D:=by obtain ⟨es,clock,_,_,_,rfl⟩:=h;exact ⟨_,rfl⟩
  have hK:=K.keyed.key (K.key a ha)
  refine ⟨w',hr,⟨_,ho,fun c hc=>?_⟩,hgr⟩
  obtain ⟨h3,h4⟩:=h2 c hc
  by_cases e:c=a
  · subst e
    rw [hg1]
    exact ⟨has_put_same hM hK _,fun zd=>atKey_put_same hM hK _ zd⟩
  · rw [hg2 c hc e]
    have hne:K.lit c≠K.lit a:=fun he=>e (K.lit_inj hc ha he)
    exact ⟨(has_put_other hne _).trans h3,fun zd=>(atKey_put_other hne _ zd).trans (h4 zd)⟩
theorem wpList_vstore {w:World} {ops:Array Oper} {rest:List Oper} {o:Oper} {a:Act} {Q:Exit→Act→World→Prop} (hgd:o.guard=none) (m x v:Operand) (t:TypeId) (hop:o.op=Op.mapUpdate t m x v) {e:TypeId} (ht:P.underlying t=some (.map k e))
    (b n:Nat) (hm:a.eval m=.map (some b)) (h:VMap K w b n f) (hn:n < maxLen) (c:α) (hc:K.ok c) (hx:a.eval x=K.enc c) (u:Value) (hv:a.eval v=u) (g:α→Option Value) (hg1:g c=some u) (hg2:∀ d,K.ok d→d≠c→g d=f d)
    (hK:∀ w',VMap K w' b (n+1) g→w.grownBy w' (some b)→wpList P ops Q rest (a.put o.dst undef) w'):wpList P ops Q (o :: rest) a w:=by
  refine wpList_plain hgd fun KK hKK=>?_
  obtain ⟨w',hr,h1,h2⟩:=h.store ht hn hc u hg1 hg2
  unfold Oper.wp
  simp [execOp,hop,hm,hx,hv,hr,Result.andThen]
  exact hKK _ _ (hK w' h1 h2)
end Go.Proofs.YtoaidbhiciaeaaaGreat

end
section
namespace Go.Proofs
open Go.Shelf
def Tryz.keys48_ren:Go.Shelf.Ren:=⟨fun | 7=>48 | 10=>83 | n=>n,fun | 23=>116 | 26=>3 | 3=>3 | 28=>119 | 0=>0 | 27=>118 | 33=>121 | 4=>4 | n=>n,fun | n=>n⟩
theorem Tryz.keys48:Go.Proofs.SlLaysZI.n7 Tryz.prog Tryz.keys48_ren:={
  mixed:=by kernel_rfl
  f7:=⟨Tryz.f48.name,by decide,Tryz.func48.trans (congrArg some (by kernel_rfl))⟩
  f10:=⟨Tryz.f83.name,by decide,Tryz.func83.trans (congrArg some (by kernel_rfl))⟩
  t0:=Tryz.underlying0
  a0:=Tryz.isAgg0
  z0:=Tryz.sizeOf0
  v0:=Tryz.zeroValue0
  t4:=Tryz.underlying4
  a4:=Tryz.isAgg4
  z4:=Tryz.sizeOf4
  v4:=Tryz.zeroValue4
  t23:=Tryz.underlying116
  a23:=Tryz.isAgg116
  z23:=Tryz.sizeOf116
  v23:=Tryz.zeroValue116
  t26:=Tryz.underlying3
  a26:=Tryz.isAgg3
  z26:=Tryz.sizeOf3
  v26:=Tryz.zeroValue3
  t27:=Tryz.underlying118
  a27:=Tryz.isAgg118
  z27:=Tryz.sizeOf118
  v27:=Tryz.zeroValue118
  t28:=Tryz.underlying119
  a28:=Tryz.isAgg119
  z28:=Tryz.sizeOf119
  v28:=Tryz.zeroValue119
  t33:=Tryz.underlying121
  a33:=Tryz.isAgg121
  z33:=Tryz.sizeOf121
  v33:=Tryz.zeroValue121 }
def Tryz.sorted47_ren:Go.Shelf.Ren:=⟨fun | 6=>47 | 8=>81 | 9=>82 | 11=>128 | 13=>79 | 12=>129 | 23=>126 | 24=>127 | 14=>158 | 15=>159 | 16=>160 | 17=>161 | 18=>162 | 19=>163 | 20=>164 | 21=>165 | 22=>166 | 25=>180 | 26=>154 | 27=>155 | 28=>181 | 29=>182 | 30=>80 | 31=>187 | n=>n,fun | 26=>3 | 28=>119 | 24=>69 | 0=>0 | 3=>3 | 37=>147 | 48=>189 | 50=>191 | 4=>4 | 40=>183 | 39=>182 | 45=>149 | 5=>5 | 9=>9 | 51=>211 | 55=>215 | 57=>230 | 58=>88 | 33=>121 | n=>n,fun | n=>n⟩
theorem Tryz.sorted47:Go.Proofs.SlLaysZI.n6 Tryz.prog Tryz.sorted47_ren:={
  mixed:=by kernel_rfl
  f6:=⟨Tryz.f47.name,by decide,Tryz.func47.trans (congrArg some (by kernel_rfl))⟩
  f8:=⟨Tryz.f81.name,by decide,Tryz.func81.trans (congrArg some (by kernel_rfl))⟩
  f11:=⟨Tryz.f128.name,by decide,Tryz.func128.trans (congrArg some (by kernel_rfl))⟩
  t0:=Tryz.underlying0
  a0:=Tryz.isAgg0
  z0:=Tryz.sizeOf0
  v0:=Tryz.zeroValue0
  t24:=Tryz.underlying69
  a24:=Tryz.isAgg69
  z24:=Tryz.sizeOf69
  v24:=Tryz.zeroValue69
  t26:=Tryz.underlying3
  a26:=Tryz.isAgg3
  z26:=Tryz.sizeOf3
  v26:=Tryz.zeroValue3
  t28:=Tryz.underlying119
  a28:=Tryz.isAgg119
  z28:=Tryz.sizeOf119
  v28:=Tryz.zeroValue119
  i26:=by kernel_rfl }
def Tryz.sort82_ren:Go.Shelf.Ren:=⟨fun | 5=>82 | 8=>79 | 7=>129 | 19=>126 | 20=>127 | 10=>158 | 11=>159 | 12=>160 | 13=>161 | 14=>162 | 15=>163 | 16=>164 | 17=>165 | 18=>166 | 30=>180 | 31=>154 | 32=>155 | 33=>181 | 34=>182 | 35=>80 | 40=>187 | n=>n,fun | 23=>69 | 25=>3 | 3=>3 | 32=>147 | 22=>69 | 0=>0 | 44=>189 | 46=>191 | 4=>4 | 36=>183 | 35=>182 | 41=>149 | 5=>5 | 9=>9 | 53=>211 | 57=>215 | 63=>230 | 64=>88 | n=>n,fun | n=>n⟩
theorem Tryz.sort82:Go.Proofs.SlLaysM.n5 Tryz.prog Tryz.sort82_ren:={
  mixed:=by kernel_rfl
  f5:=⟨Tryz.f82.name,by decide,Tryz.func82.trans (congrArg some (by kernel_rfl))⟩
  f7:=⟨Tryz.f129.name,by decide,Tryz.func129.trans (congrArg some (by kernel_rfl))⟩
  f8:=Tryz.func79.trans (congrArg some (by kernel_rfl))
  f10:=⟨Tryz.f158.name,by decide,Tryz.func158.trans (congrArg some (by kernel_rfl))⟩
  f11:=⟨Tryz.f159.name,by decide,Tryz.func159.trans (congrArg some (by kernel_rfl))⟩
  f12:=⟨Tryz.f160.name,by decide,Tryz.func160.trans (congrArg some (by kernel_rfl))⟩
  f13:=⟨Tryz.f161.name,by decide,Tryz.func161.trans (congrArg some (by kernel_rfl))⟩
  f14:=⟨Tryz.f162.name,by decide,Tryz.func162.trans (congrArg some (by kernel_rfl))⟩
  f15:=⟨Tryz.f163.name,by decide,Tryz.func163.trans (congrArg some (by kernel_rfl))⟩
  f16:=⟨Tryz.f164.name,by decide,Tryz.func164.trans (congrArg some (by kernel_rfl))⟩
  f17:=⟨Tryz.f165.name,by decide,Tryz.func165.trans (congrArg some (by kernel_rfl))⟩
  f18:=⟨Tryz.f166.name,by decide,Tryz.func166.trans (congrArg some (by kernel_rfl))⟩
  f19:=Tryz.func126.trans (congrArg some (by kernel_rfl))
  f20:=Tryz.func127.trans (congrArg some (by kernel_rfl))
  f30:=⟨Tryz.f180.name,by decide,Tryz.func180.trans (congrArg some (by kernel_rfl))⟩
  f31:=Tryz.func154.trans (congrArg some (by kernel_rfl))
  f32:=Tryz.func155.trans (congrArg some (by kernel_rfl))
  f33:=⟨Tryz.f181.name,by decide,Tryz.func181.trans (congrArg some (by kernel_rfl))⟩
  f34:=⟨Tryz.f182.name,by decide,Tryz.func182.trans (congrArg some (by kernel_rfl))⟩
  f35:=⟨Tryz.f80.name,by decide,Tryz.func80.trans (congrArg some (by kernel_rfl))⟩
  f40:=⟨Tryz.f187.name,by decide,Tryz.func187.trans (congrArg some (by kernel_rfl))⟩
  t0:=Tryz.underlying0
  a0:=Tryz.isAgg0
  z0:=Tryz.sizeOf0
  v0:=Tryz.zeroValue0
  t3:=Tryz.underlying3
  a3:=Tryz.isAgg3
  z3:=Tryz.sizeOf3
  v3:=Tryz.zeroValue3
  t4:=Tryz.underlying4
  a4:=Tryz.isAgg4
  z4:=Tryz.sizeOf4
  v4:=Tryz.zeroValue4
  t5:=Tryz.underlying5
  a5:=Tryz.isAgg5
  z5:=Tryz.sizeOf5
  v5:=Tryz.zeroValue5
  t9:=Tryz.underlying9
  a9:=Tryz.isAgg9
  z9:=Tryz.sizeOf9
  v9:=Tryz.zeroValue9
  t22:=Tryz.underlying69
  a22:=Tryz.isAgg69
  z22:=Tryz.sizeOf69
  v22:=Tryz.zeroValue69
  t23:=Tryz.underlying69
  a23:=Tryz.isAgg69
  z23:=Tryz.sizeOf69
  v23:=Tryz.zeroValue69
  t25:=Tryz.underlying3
  a25:=Tryz.isAgg3
  z25:=Tryz.sizeOf3
  v25:=Tryz.zeroValue3
  t32:=Tryz.underlying147
  a32:=Tryz.isAgg147
  z32:=Tryz.sizeOf147
  v32:=Tryz.zeroValue147
  t35:=Tryz.underlying182
  a35:=Tryz.isAgg182
  z35:=Tryz.sizeOf182
  v35:=Tryz.zeroValue182
  t36:=Tryz.underlying183
  a36:=Tryz.isAgg183
  z36:=Tryz.sizeOf183
  v36:=Tryz.zeroValue183
  t41:=Tryz.underlying149
  a41:=Tryz.isAgg149
  z41:=Tryz.sizeOf149
  v41:=Tryz.zeroValue149
  t44:=Tryz.underlying189
  a44:=Tryz.isAgg189
  z44:=Tryz.sizeOf189
  v44:=Tryz.zeroValue189
  t46:=Tryz.underlying191
  a46:=Tryz.isAgg191
  z46:=Tryz.sizeOf191
  v46:=Tryz.zeroValue191
  t53:=Tryz.underlying211
  a53:=Tryz.isAgg211
  z53:=Tryz.sizeOf211
  v53:=Tryz.zeroValue211
  t57:=Tryz.underlying215
  a57:=Tryz.isAgg215
  z57:=Tryz.sizeOf215
  v57:=Tryz.zeroValue215
  t63:=Tryz.underlying230
  a63:=Tryz.isAgg230
  z63:=Tryz.sizeOf230
  v63:=Tryz.zeroValue230
  t64:=Tryz.underlying88
  a64:=Tryz.isAgg88
  z64:=Tryz.sizeOf88
  v64:=Tryz.zeroValue88 }
open Go.RowKit Go.Maps Go.Sort in
theorem Tryz.sorts47 (m:Nat):AnyZI.SortsIn Tryz.prog Tryz.sorted47_ren Fence.wide m:=
  ⟨fun blk off cap ss W hH hblk hsz=>callsIn_wide.2 (AnyM.slices_Sort_int Tryz.sort82 blk off cap ss W hH hblk hsz),
   fun p cap W=>callsIn_wide.2 (AnyM.slices_Sort_int_none Tryz.sort82 p cap W)⟩
open Go.RowKit Go.Maps Go.Sort in
theorem Tryz.mapKeys48 (mb:Option Nat) (W:World):Calls Tryz.prog 48 #[.map mb] W fun e w'=>e=.returned (.func (.func 83) #[] #[.pointer (some ⟨W.heap.size,0,none⟩)])∧w'=W.alloc (.cells #[.map mb] 116):=
  (callsIn_wide (n:=5)).1 (AnyZI.keys_in Tryz.keys48 Fence.wide 5 trivial rfl mb W)
open Go.RowKit Go.Maps Go.Sort in
theorem Tryz.sortedKeys48 {H:Type} (b nn Bm:Nat) (D0:DataW H) (R:Value→Option (DataW H × List MemPlace)) (w:World) (hm:w.cell? ⟨Bm,0,none⟩=some (.map (some b))) (hown:w.ownsMap Tryz.prog 3 R b nn D0) (hmax:Maps.size D0≤maxLen) (hbytes:Maps.size D0 * 8≤140737488355328) :
    Calls Tryz.prog 47 #[.func (.func 83) #[] #[.pointer (some ⟨Bm,0,none⟩)]] w fun e w'=>∃ (v:Value) (ss:List Int),e=.returned v∧ss.Perm (intKeys D0)∧
      w'.ownsRow w.heap.size 3 1 v ss.length ((ss.mergeSort (fun x y=>decide (x≤y))).map encZ)∧(v=.slice none 0 0↔ss=[])∧Below w.heap.size w w':=
  (callsIn_wide (n:=5)).1 (AnyZI.sorted_in Tryz.sorted47 Fence.wide 5 trivial trivial trivial trivial rfl (by omega) (Tryz.sorts47 _) (enters_of Tryz.func82 (by kernel_rfl) rfl) 83 #[.pointer (some ⟨Bm,0,none⟩)] trivial (enters_of Tryz.func83 (by kernel_rfl) rfl) _ _ hmax hbytes _
    (AnyZI.keys_gives (ρ:=Tryz.keys48_ren) { Tryz.keys48 with } Fence.wide _ trivial rfl (by omega) Bm b nn D0 w (World.block_lt_of_cell? w _ hm) hm hown))
def Tryz.keys110_ren:Go.Shelf.Ren:=⟨fun | 7=>110 | 10=>149 | n=>n,fun | 23=>140 | 26=>3 | 3=>4 | 28=>119 | 0=>0 | 27=>118 | 33=>121 | 4=>4 | n=>n,fun | n=>n⟩
theorem Tryz.keys110:Go.Proofs.SlLaysZI.n7 Tryz.prog Tryz.keys110_ren:={
  mixed:=by kernel_rfl
  f7:=⟨Tryz.f110.name,by decide,Tryz.func110.trans (congrArg some (by kernel_rfl))⟩
  f10:=⟨Tryz.f149.name,by decide,Tryz.func149.trans (congrArg some (by kernel_rfl))⟩
  t0:=Tryz.underlying0
  a0:=Tryz.isAgg0
  z0:=Tryz.sizeOf0
  v0:=Tryz.zeroValue0
  t4:=Tryz.underlying4
  a4:=Tryz.isAgg4
  z4:=Tryz.sizeOf4
  v4:=Tryz.zeroValue4
  t23:=Tryz.underlying140
  a23:=Tryz.isAgg140
  z23:=Tryz.sizeOf140
  v23:=Tryz.zeroValue140
  t26:=Tryz.underlying3
  a26:=Tryz.isAgg3
  z26:=Tryz.sizeOf3
  v26:=Tryz.zeroValue3
  t27:=Tryz.underlying118
  a27:=Tryz.isAgg118
  z27:=Tryz.sizeOf118
  v27:=Tryz.zeroValue118
  t28:=Tryz.underlying119
  a28:=Tryz.isAgg119
  z28:=Tryz.sizeOf119
  v28:=Tryz.zeroValue119
  t33:=Tryz.underlying121
  a33:=Tryz.isAgg121
  z33:=Tryz.sizeOf121
  v33:=Tryz.zeroValue121 }
open Go.RowKit Go.Maps Go.Sort in
theorem Tryz.mapKeys110 (mb:Option Nat) (W:World):Calls Tryz.prog 110 #[.map mb] W fun e w'=>e=.returned (.func (.func 149) #[] #[.pointer (some ⟨W.heap.size,0,none⟩)])∧w'=W.alloc (.cells #[.map mb] 140):=
  (callsIn_wide (n:=5)).1 (AnyZI.keys_in Tryz.keys110 Fence.wide 5 trivial rfl mb W)
open Go.RowKit Go.Maps Go.Sort in
theorem Tryz.sortedKeys110 {H:Type} (b nn Bm:Nat) (D0:DataW H) (R:Value→Option (DataW H × List MemPlace)) (w:World) (hm:w.cell? ⟨Bm,0,none⟩=some (.map (some b))) (hown:w.ownsMap Tryz.prog 3 R b nn D0) (hmax:Maps.size D0≤maxLen) (hbytes:Maps.size D0 * 8≤140737488355328) :
    Calls Tryz.prog 47 #[.func (.func 149) #[] #[.pointer (some ⟨Bm,0,none⟩)]] w fun e w'=>∃ (v:Value) (ss:List Int),e=.returned v∧ss.Perm (intKeys D0)∧
      w'.ownsRow w.heap.size 3 1 v ss.length ((ss.mergeSort (fun x y=>decide (x≤y))).map encZ)∧(v=.slice none 0 0↔ss=[])∧Below w.heap.size w w':=
  (callsIn_wide (n:=5)).1 (AnyZI.sorted_in Tryz.sorted47 Fence.wide 5 trivial trivial trivial trivial rfl (by omega) (Tryz.sorts47 _) (enters_of Tryz.func82 (by kernel_rfl) rfl) 149 #[.pointer (some ⟨Bm,0,none⟩)] trivial (enters_of Tryz.func149 (by kernel_rfl) rfl) _ _ hmax hbytes _
    (AnyZI.keys_gives (ρ:=Tryz.keys110_ren) { Tryz.keys110 with } Fence.wide _ trivial rfl (by omega) Bm b nn D0 w (World.block_lt_of_cell? w _ hm) hm hown))
end Go.Proofs

end
section
namespace Go.Proofs.YtoaidbhiciaeaaaGreat
open Go.RowKit Go.Maps
def I64 (x:Int):Prop:=-9223372036854775808≤x∧x≤9223372036854775807
theorem wf64 {x:Int}:(Lit.int .i64 x).wf=true↔I64 x:=by
  unfold I64
  simp [Lit.wf,IntKind.min,IntKind.max,IntKind.signed,IntKind.bits]
def intK:KeyEnc Tryz.prog 3 Int where
  enc:=.int .i64
  lit:=.int .i64
  ok:=I64
  keyed:=int_keyed Tryz.underlying3
  key a ha:=keyOf_int_mk Tryz.underlying3 (wf64.2 ha)
  inj a b _ _ h:=by simpa using h
def Asc (l:List Int):Prop:=l.Pairwise (· < ·)
theorem Asc.nodup {l:List Int} (h:Asc l):l.Nodup:=h.imp fun h e=>by omega
theorem Asc.eq {l m:List Int} (hl:Asc l) (hm:Asc m) (h:∀ x,x∈l↔x∈m):l=m:=by
  refine List.Perm.eq_of_pairwise (le:=fun a b=>a < b) (fun a b _ _ h1 h2=>by omega) hl hm ((List.perm_ext_iff_of_nodup hl.nodup hm.nodup).2 h)
theorem VMap.keys {w:World} {b n:Nat} {f:Int→Option Value} (h:VMap intK w b n f):∃ D:DataW Value,w.ownsMap Tryz.prog 3 hold b n D∧Maps.size D≤n∧(intKeys D).Nodup∧∀ x,x∈intKeys D↔(I64 x∧(f x).isSome=true):=by
  obtain ⟨D,ho,h2⟩:=h
  have hw:=intKeys_wf ho Tryz.underlying3
  obtain ⟨es,hD,hpw,hkl⟩:=ho.entries intK.keyed
  obtain ⟨es',hD',hko⟩:=ho.keysOf
  have hsz:Maps.size D≤n:=by
    obtain ⟨es0,clock,_,_,hs,rfl⟩:=ho
    show ((es0.toList.map _).foldr DataW.insert []).length≤n
    rw [length_sorted]
    simpa using hs
  subst hD
  have hki:∀ p∈es,∃ x,p.1=.int .i64 x:=fun p hp=>by
    cases hD'
    obtain ⟨v,hv⟩:=hko p hp
    obtain ⟨x,_,hx,_⟩:=Maps.keyOf_i64 Tryz.underlying3 hv
    exact ⟨x,hx⟩
  refine ⟨_,ho,hsz,?_,fun x=>?_⟩
  · show (es.map fun p=>Go.intOf p.1).Nodup
    refine List.pairwise_map.2 (hpw.imp_of_mem fun {p q} hp' hq' hne e=>hne ?_)
    obtain ⟨a,ha⟩:=hki p hp'
    obtain ⟨c,hc⟩:=hki q hq'
    rw [ha,hc] at e ⊢
    exact congrArg _ e
  · have hmem:x∈intKeys (.map es)↔has (.map es) (.int .i64 x)=true:=by
      rw [has_eq,List.any_eq_true]
      show x∈es.map (fun p=>Go.intOf p.1)↔_
      rw [List.mem_map]
      constructor
      · rintro ⟨p,hp',rfl⟩
        obtain ⟨a,ha⟩:=hki p hp'
        exact ⟨p,hp',by rw [ha];simp [Lit.sameKey,Go.intOf]⟩
      · rintro ⟨p,hp',hs⟩
        obtain ⟨a,ha⟩:=hki p hp'
        rw [ha] at hs
        exact ⟨p,hp',by rw [ha];simpa [Lit.sameKey,Go.intOf] using hs⟩
    constructor
    · intro hx
      have hx1:=wf64.1 (hw x hx)
      exact ⟨hx1,by rw [← (h2 x hx1).1];exact hmem.1 hx⟩
    · rintro ⟨hx1,hx2⟩
      rw [← (h2 x hx1).1] at hx2
      exact hmem.2 hx2
def KeysAre (f:Int→Option Value) (xs:List Int):Prop:=Asc xs∧∀ x,x∈xs↔(I64 x∧(f x).isSome=true)
theorem sorted_keys {D:DataW Value} {f:Int→Option Value} {ss:List Int} (hn:(intKeys D).Nodup) (hm:∀ x,x∈intKeys D↔(I64 x∧(f x).isSome=true)) (hp:ss.Perm (intKeys D)):KeysAre f (ss.mergeSort (fun x y=>decide (x≤y))):=by
  have tr:∀ a b c:Int,decide (a≤b)=true→decide (b≤c)=true→decide (a≤c)=true:=fun a b c h1 h2=>by simp only [decide_eq_true_eq] at *;omega
  have to:∀ a b:Int,(decide (a≤b) || decide (b≤a))=true:=fun a b=>by simp only [Bool.or_eq_true,decide_eq_true_eq];omega
  have hs:=List.pairwise_mergeSort tr to ss
  have hpp:(ss.mergeSort (fun x y=>decide (x≤y))).Perm (intKeys D):=(List.mergeSort_perm ss _).trans hp
  have hnd:(ss.mergeSort (fun x y=>decide (x≤y))).Nodup:=hpp.nodup_iff.2 hn
  refine ⟨?_,fun x=>by rw [hpp.mem_iff];exact hm x⟩
  refine (List.pairwise_and_iff.2 ⟨hs,hnd⟩).imp fun {a b} h=>?_
  have:=h.1
  simp only [decide_eq_true_eq] at this
  have:=h.2
  omega
def OutK (w:World) (f:Int→Option Value) (e:Ending) (w':World):Prop:=∃ v xs,e=.returned v∧IntL w' v xs∧KeysAre f xs∧Keeps w w'
theorem sortedB_any (b n Bm:Nat) (f:Int→Option Value) (w:World) (hm:w.cell? ⟨Bm,0,none⟩=some (.map (some b))) (h:VMap intK w b n f) (hn:n≤1000000) :
    Calls Tryz.prog 47 #[.func (.func 149) #[] #[.pointer (some ⟨Bm,0,none⟩)]] w (OutK w f):=by
  obtain ⟨D,ho,hsz,hnd,hmem⟩:=h.keys
  refine (Tryz.sortedKeys110 b n Bm D hold w hm ho (by unfold maxLen;omega) (by omega)).mono fun e w' h=>?_
  obtain ⟨v,ss,rfl,hp,hrow,_,hb⟩:=h
  refine ⟨v,_,rfl,?_,sorted_keys hnd hmem hp,hb⟩
  have hl:(ss.mergeSort (fun x y=>decide (x≤y))).length=ss.length:=List.length_mergeSort _
  exact IntL.own (by rw [hl];exact hrow)
theorem keysB_any (mb:Option Nat) (w:World):Calls Tryz.prog 110 #[.map mb] w fun e w'=>e=.returned (.func (.func 149) #[] #[.pointer (some ⟨w.heap.size,0,none⟩)])∧w.alloc (.cells #[.map mb] 140)=w':=
  (Tryz.mapKeys110 mb w).mono fun _ _ h=>⟨h.1,h.2.symm⟩
end Go.Proofs.YtoaidbhiciaeaaaGreat

end
section
namespace Go.Proofs.YtoaidbhiciaeaaaGreat
open Go.RowKit Go.Maps
def firstsH (l:List Hol):List Int:=l.foldl (fun a x=>if a.contains x.holder then a else a ++ [x.holder]) []
theorem firstsH_snoc (l:List Hol) (x:Hol):firstsH (l ++ [x])=if (firstsH l).contains x.holder then firstsH l else firstsH l ++ [x.holder]:=by simp [firstsH,List.foldl_append]
theorem snoc_ind {α:Type} {p:List α→Prop} (h0:p []) (h1:∀ l x,p l→p (l ++ [x])):∀ l,p l:=by
  have key:∀ (n:Nat) (l:List α),l.length=n→p l:=by
    intro n
    induction n with
    | zero=>intro l hl;rw [List.eq_nil_of_length_eq_zero hl];exact h0
    | succ n ih=>
      intro l hl
      have hne:l≠[]:=by intro e;subst e;simp at hl
      rw [← List.dropLast_concat_getLast hne]
      exact h1 _ _ (ih _ (by simp [hl]))
  exact fun l=>key _ l rfl
theorem firstsH_mem (l:List Hol):∀ h,h∈firstsH l↔∃ x∈l,x.holder=h:=by
  induction l using snoc_ind with
  | h0=>intro h;simp [firstsH]
  | h1 l x ih=>
    intro h
    rw [firstsH_snoc]
    split
    · rename_i hc
      rw [ih]
      have hc':x.holder∈firstsH l:=by simpa using hc
      obtain ⟨y,hy,e⟩:=(ih _).1 hc'
      constructor
      · rintro ⟨z,hz,rfl⟩;exact ⟨z,by simp [hz],rfl⟩
      · rintro ⟨z,hz,rfl⟩
        rcases List.mem_append.1 hz with hz | hz
        · exact ⟨z,hz,rfl⟩
        · simp only [List.mem_singleton] at hz;subst hz;exact ⟨y,hy,e⟩
    · simp only [List.mem_append,List.mem_singleton,ih]
      constructor
      · rintro (⟨z,hz,rfl⟩ | rfl)
        · exact ⟨z,.inl hz,rfl⟩
        · exact ⟨x,.inr rfl,rfl⟩
      · rintro ⟨z,hz | rfl,rfl⟩
        · exact .inl ⟨z,hz,rfl⟩
        · exact .inr rfl
theorem firstsH_nodup (l:List Hol):(firstsH l).Nodup:=by
  induction l using snoc_ind with
  | h0=>simp [firstsH]
  | h1 l x ih=>
    rw [firstsH_snoc]
    split
    · exact ih
    · rename_i hc
      have hc':x.holder∉firstsH l:=by simpa using hc
      rw [List.nodup_append]
      refine ⟨ih,by simp,?_⟩
      intro a ha b hb e
      simp only [List.mem_singleton] at hb
      subst hb;exact hc' (e ▸ ha)
theorem firstsH_len (l:List Hol):(firstsH l).length≤l.length:=by
  induction l using snoc_ind with
  | h0=>simp [firstsH]
  | h1 l x ih=>
    rw [firstsH_snoc]
    split <;> simp <;> omega
def sumAt (l:List Hol) (e d:Int) (hs:List Int):Int:=(hs.map fun h=>atH l h e d).sum
def totH (l:List Hol) (e d:Int):Int:=sumAt l e d (firstsH l)
theorem sumAt_snoc (l:List Hol) (e d:Int) (hs:List Int) (h:Int):sumAt l e d (hs ++ [h])=sumAt l e d hs+atH l h e d:=by simp [sumAt,List.sum_append]
def ShB (l:List Hol):Prop:=∀ x∈l,-1000000000≤x.share∧x.share≤1000000000
theorem curH_mem {d:Int} {l:List Hol} {m:Hol} (h:curH d l=some m):m∈l:=by
  induction l using snoc_ind generalizing m with
  | h0=>cases h
  | h1 l x ih=>
    rw [curH_snoc] at h
    split at h
    · cases hc:curH d l with
      | none=>rw [hc] at h;simp only [Option.some.injEq] at h;subst h;simp
      | some y=>
        rw [hc] at h
        simp only [Option.some.injEq] at h
        unfold pickH at h
        split at h
        · subst h;simp
        · subst h;simp [ih hc]
    · simp [ih h]
theorem atH_bd {l:List Hol} (hb:ShB l) (h e d:Int):-1000000000≤atH l h e d∧atH l h e d≤1000000000:=by
  unfold atH
  cases hc:curH d (ofPair l h e) with
  | none=>exact ⟨by decide,by decide⟩
  | some m=>exact hb m (List.mem_filter.1 (curH_mem hc)).1
theorem sumAt_bd {l:List Hol} (hb:ShB l) (e d:Int) (hs:List Int):-(1000000000 * (hs.length:Int))≤sumAt l e d hs∧sumAt l e d hs≤1000000000 * (hs.length:Int):=by
  induction hs with
  | nil=>simp [sumAt]
  | cons h hs ih=>
    have h1:=atH_bd hb h e d
    have h2:sumAt l e d (h :: hs)=atH l h e d+sumAt l e d hs:=by simp [sumAt]
    rw [h2,List.length_cons]
    omega
def doneAt (l:List Hol) (e d:Int) (hs:List Int) (left:Lit→Bool):Int:=sumAt l e d (hs.filter fun h=>!left (.int .i64 h))
theorem doneAt_start {l:List Hol} {e d:Int} {hs:List Int} {left:Lit→Bool} (h:∀ x∈hs,left (.int .i64 x)=true):doneAt l e d hs left=0:=by
  unfold doneAt
  rw [List.filter_eq_nil_iff.2 (fun x hx=>by simp [h x hx])]
  rfl
theorem doneAt_end {l:List Hol} {e d:Int} {hs:List Int} {left:Lit→Bool} (h:∀ kl,left kl=false):doneAt l e d hs left=sumAt l e d hs:=by
  unfold doneAt
  rw [List.filter_eq_self.2 (fun x _=>by simp [h])]
theorem same_int (x y:Int):(Lit.int .i64 y).sameKey (.int .i64 x)=decide (y=x):=by
  simp [Lit.sameKey]
theorem doneAt_step {l:List Hol} {e d:Int} {left:Lit→Bool} {x:Int} (hl:left (.int .i64 x)=true):∀ {hs:List Int},hs.Nodup→x∈hs →
    doneAt l e d hs (fun z=>left z && !z.sameKey (.int .i64 x))=doneAt l e d hs left+atH l x e d:=by
  intro hs
  induction hs with
  | nil=>intro _ h;cases h
  | cons y hs ih=>
    intro hn hx
    have hy:=(List.nodup_cons.1 hn).1
    have hn':=(List.nodup_cons.1 hn).2
    have e1:∀ (g:Lit→Bool),doneAt l e d (y :: hs) g=(if g (.int .i64 y)=true then 0 else atH l y e d)+doneAt l e d hs g:=by
      intro g
      unfold doneAt
      rw [List.filter_cons]
      cases hg:g (.int .i64 y) <;> simp [sumAt]
    rw [e1,e1]
    by_cases hxy:y=x
    · subst hxy
      have h3:doneAt l e d hs (fun z=>left z && !z.sameKey (.int .i64 y))=doneAt l e d hs left:=by
        unfold doneAt
        congr 1
        apply List.filter_congr
        intro z hz
        have hzy:z≠y:=fun e=>hy (e ▸ hz)
        simp [same_int,hzy]
      rw [h3]
      simp [hl,same_int]
      omega
    · rcases List.mem_cons.1 hx with rfl | hx
      · exact absurd rfl hxy
      · rw [ih hn' hx]
        simp only [same_int,hxy,decide_false,Bool.not_false,Bool.and_true]
        omega
theorem doneAt_bd {l:List Hol} (hb:ShB l) (e d:Int) (hs:List Int) (left:Lit→Bool):-(1000000000 * (hs.length:Int))≤doneAt l e d hs left∧doneAt l e d hs left≤1000000000 * (hs.length:Int):=by
  unfold doneAt
  have h1:=sumAt_bd hb e d (hs.filter fun h=>!left (.int .i64 h))
  have h2:=List.length_filter_le (fun h:Int=>!left (.int .i64 h)) hs
  omega
def hasH (l:List Hol):Int→Option Value:=fun h=>if l.any (fun x=>x.holder == h) then some (.bool true) else none
theorem hasH_nil:hasH []=fun _=>none:=by funext h;simp [hasH]
theorem hasH_snoc (l:List Hol) (x:Hol):hasH (l ++ [x]) x.holder=some (.bool true)∧∀ d,d≠x.holder→hasH (l ++ [x]) d=hasH l d:=by
  refine ⟨by simp [hasH],fun d hd=>?_⟩
  have:(x.holder == d)=false:=by simpa using fun e=>hd e.symm
  simp [hasH,this]
theorem hasH_some (l:List Hol) (h:Int):(hasH l h).isSome=true↔h∈firstsH l:=by
  rw [firstsH_mem]
  unfold hasH
  cases hc:l.any (fun x=>x.holder == h) with
  | true=>
    simp only [if_true,Option.isSome_some,true_iff]
    simpa using hc
  | false=>
    simp only [Bool.false_eq_true,if_false,Option.isSome_none,false_iff]
    rintro ⟨x,hx,rfl⟩
    rw [List.any_eq_false] at hc
    simpa using hc x hx
end Go.Proofs.YtoaidbhiciaeaaaGreat

end
section
namespace Go.Proofs.YtoaidbhiciaeaaaGreat
open Go.RowKit
theorem cur_take_no {l:List Hol} {h e d:Int} {k:Nat} (hk:k < l.length) (hp:pairB h e l[k]=false):curH d (ofPair (l.take (k+1)) h e)=curH d (ofPair (l.take k) h e):=by
  rw [take_snoc _ _ hk,ofPair_no hp]
theorem cur_take_late {l:List Hol} {h e d:Int} {k:Nat} (hk:k < l.length) (hd:¬ l[k].date≤d):curH d (ofPair (l.take (k+1)) h e)=curH d (ofPair (l.take k) h e):=by
  cases hp:pairB h e l[k] with
  | false=>exact cur_take_no hk hp
  | true=>rw [take_snoc _ _ hk,ofPair_yes hp,curH_late hd]
theorem cur_take_yes {l:List Hol} {h e d:Int} {k:Nat} (hk:k < l.length) (hp:pairB h e l[k]=true) (hd:l[k].date≤d) (hc:∀ m,curH d (ofPair (l.take k) h e)=some m→m.date < l[k].date):curH d (ofPair (l.take (k+1)) h e)=some l[k]:=by
  rw [take_snoc _ _ hk,ofPair_yes hp]
  cases h1:curH d (ofPair (l.take k) h e) with
  | none=>exact curH_first hd h1
  | some m=>exact curH_new hd h1 (hc m h1)
theorem cur_take_old {l:List Hol} {h e d:Int} {k:Nat} {m:Hol} (hk:k < l.length) (hc:curH d (ofPair (l.take k) h e)=some m) (hm:¬ m.date < l[k].date):curH d (ofPair (l.take (k+1)) h e)=curH d (ofPair (l.take k) h e):=by
  cases hp:pairB h e l[k] with
  | false=>exact cur_take_no hk hp
  | true=>
    by_cases hd:l[k].date≤d
    · rw [take_snoc _ _ hk,ofPair_yes hp,curH_old hd hc hm,hc]
    · exact cur_take_late hk hd
set_option maxRecDepth 100000 in
theorem rhat_any (ao:Option Addr) (l:List Hol) (cap b o:Nat) (h e d:Int) (w:World) (H:Hols w ao l cap b o) :
    Calls Tryz.prog 139 #[.slice ao l.length cap,.int .i64 h,.int .i64 e,.int .i64 d] w fun en w'=>en=.returned (.int .i64 (atH l h e d))∧Keeps w w':=by
  have hcap:=Sl.cap H
  have hle:=Sl.le H
  have HH:=Lib.hid H
  clear H
  go_enter Tryz.func139,Tryz.ntmps139
  go_wp2_with fail
  go_loopw [9,10] (fun vb vi wr=>∃ k:Nat,k≤l.length∧vi=.int .i64 k∧((vb=.int .i64 (-1)∧Hid (curH d (ofPair (l.take k) h e)=none))∨(∃ (j:Nat) (hj:j < l.length),j < k∧vb=.int .i64 j∧Hid (curH d (ofPair (l.take k) h e)=some l[j])))∧Hid (Keeps w wr)) (fun _ vi _=>l.length - (intOf vi).toNat)
  case atStart=>exact ⟨0,Nat.zero_le _,rfl,.inl ⟨rfl,Lib.hid rfl⟩,Lib.hid (Keeps.refl w)⟩
  case round=>
    obtain ⟨k,hk,rfl,hor,HW⟩:=hrel
    by_cases hlt:k < l.length
    · have HL:=HH.out.keeps HW.out
      have hix:=Sl.at HL Tryz.underlying32 Tryz.sizeOf101 k hlt
      have c0:=HL.cell Hol.len k hlt 0 _ rfl
      have c1:=HL.cell Hol.len k hlt 1 _ rfl
      have c2:=HL.cell Hol.len k hlt 2 _ rfl
      simp only [Nat.add_zero] at c0
      rcases hor with ⟨rfl,HC⟩ | ⟨j,hj,hjk,rfl,HC⟩
      · clear HL
        cases p1:(l[k].holder == h) with
        | false=>
          have HH1:=cur_take_no (h:=h) (e:=e) (d:=d) hlt (by unfold pairB;rw [p1];rfl)
          have HC2:=Lib.hid (HH1.trans HC.out)
          clear HH1
          go_wp2_with fail
          go_quiet (fail)
          go_wp2_with fail
          go_roundw
          case rel=>exact ⟨k+1,by omega,by go_num,(Or.inl ⟨rfl,HC2⟩),Lib.hid (HW.out.drewN _)⟩
          case measure=>simp [intOf];omega
        | true=>
          cases p2:(l[k].entity == e) with
          | false=>
            have HH1:=cur_take_no (h:=h) (e:=e) (d:=d) hlt (by unfold pairB;rw [p1,p2];rfl)
            have HC2:=Lib.hid (HH1.trans HC.out)
            clear HH1
            go_wp2_with fail
            go_quiet (fail)
            go_wp2_with fail
            go_roundw
            case rel=>exact ⟨k+1,by omega,by go_num,(Or.inl ⟨rfl,HC2⟩),Lib.hid (HW.out.drewN _)⟩
            case measure=>simp [intOf];omega
          | true=>
            by_cases hd:l[k].date≤d
            · have HH1:=cur_take_yes (h:=h) (e:=e) (d:=d) hlt (by unfold pairB;rw [p1,p2];rfl) hd (fun m hm=>by rw [HC.out] at hm;cases hm)
              have e3:decide (l[k].date≤d)=true:=decide_eq_true hd
              clear hd
              have HC2:=Lib.hid HH1
              clear HH1
              go_wp2_with fail
              go_quiet (fail)
              go_wp2_with fail
              go_roundw
              case rel=>exact ⟨k+1,by omega,by go_num,.inr ⟨k,hlt,by omega,rfl,HC2⟩,Lib.hid (HW.out.drewN _)⟩
              case measure=>simp [intOf];omega
            · have HH1:=cur_take_late (h:=h) (e:=e) (d:=d) hlt hd
              have e3:decide (l[k].date≤d)=false:=decide_eq_false hd
              clear hd
              have HC2:=Lib.hid (HH1.trans HC.out)
              clear HH1
              go_wp2_with fail
              go_quiet (fail)
              go_wp2_with fail
              go_roundw
              case rel=>exact ⟨k+1,by omega,by go_num,(Or.inl ⟨rfl,HC2⟩),Lib.hid (HW.out.drewN _)⟩
              case measure=>simp [intOf];omega
      · have hiy:=Sl.at HL Tryz.underlying32 Tryz.sizeOf101 j hj
        have d2:=HL.cell Hol.len j hj 2 _ rfl
        have hj0:decide ((j:Int) < 0)=false:=decide_eq_false (by omega)
        clear HL
        cases p1:(l[k].holder == h) with
        | false=>
          have HH1:=cur_take_no (h:=h) (e:=e) (d:=d) hlt (by unfold pairB;rw [p1];rfl)
          have HC2:=Lib.hid (HH1.trans HC.out)
          clear HH1
          go_wp2_with fail
          go_quiet (fail)
          go_wp2_with fail
          go_roundw
          case rel=>exact ⟨k+1,by omega,by go_num,(Or.inr ⟨j,hj,Nat.lt_succ_of_lt hjk,rfl,HC2⟩),Lib.hid (HW.out.drewN _)⟩
          case measure=>simp [intOf];omega
        | true=>
          cases p2:(l[k].entity == e) with
          | false=>
            have HH1:=cur_take_no (h:=h) (e:=e) (d:=d) hlt (by unfold pairB;rw [p1,p2];rfl)
            have HC2:=Lib.hid (HH1.trans HC.out)
            clear HH1
            go_wp2_with fail
            go_quiet (fail)
            go_wp2_with fail
            go_roundw
            case rel=>exact ⟨k+1,by omega,by go_num,(Or.inr ⟨j,hj,Nat.lt_succ_of_lt hjk,rfl,HC2⟩),Lib.hid (HW.out.drewN _)⟩
            case measure=>simp [intOf];omega
          | true=>
            by_cases hd:l[k].date≤d
            · have e3:decide (l[k].date≤d)=true:=decide_eq_true hd
              by_cases hm:l[j].date < l[k].date
              · have HH1:=cur_take_yes (h:=h) (e:=e) (d:=d) hlt (by unfold pairB;rw [p1,p2];rfl) hd (fun m hm'=>by rw [HC.out] at hm';cases hm';exact hm)
                have e4:decide (l[j].date < l[k].date)=true:=decide_eq_true hm
                clear hd hm
                have HC2:=Lib.hid HH1
                clear HH1
                go_wp2_with fail
                go_quiet (fail)
                go_wp2_with fail
                go_roundw
                case rel=>exact ⟨k+1,by omega,by go_num,.inr ⟨k,hlt,by omega,rfl,HC2⟩,Lib.hid (HW.out.drewN _)⟩
                case measure=>simp [intOf];omega
              · have HH1:=cur_take_old (h:=h) (e:=e) (d:=d) hlt HC.out hm
                have e4:decide (l[j].date < l[k].date)=false:=decide_eq_false hm
                clear hd hm
                have HC2:=Lib.hid (HH1.trans HC.out)
                clear HH1
                go_wp2_with fail
                go_quiet (fail)
                go_wp2_with fail
                go_roundw
                case rel=>exact ⟨k+1,by omega,by go_num,(Or.inr ⟨j,hj,Nat.lt_succ_of_lt hjk,rfl,HC2⟩),Lib.hid (HW.out.drewN _)⟩
                case measure=>simp [intOf];omega
            · have HH1:=cur_take_late (h:=h) (e:=e) (d:=d) hlt hd
              have e3:decide (l[k].date≤d)=false:=decide_eq_false hd
              clear hd
              have HC2:=Lib.hid (HH1.trans HC.out)
              clear HH1
              go_wp2_with fail
              go_quiet (fail)
              go_wp2_with fail
              go_roundw
              case rel=>exact ⟨k+1,by omega,by go_num,(Or.inr ⟨j,hj,Nat.lt_succ_of_lt hjk,rfl,HC2⟩),Lib.hid (HW.out.drewN _)⟩
              case measure=>simp [intOf];omega
    · obtain rfl:k=l.length:=by omega
      rcases hor with ⟨rfl,HC⟩ | ⟨j,hj,hjk,rfl,HC⟩
      · have HQ:Hid (atH l h e d=0):=Lib.hid (by have:=HC.out;rw [List.take_length] at this;unfold atH;rw [this];rfl)
        go_wp2_with fail
        go_ret
        rw [HQ.out]
        exact ⟨rfl,HW.out⟩
      · have HL:=HH.out.keeps HW.out
        have hiy:=Sl.at HL Tryz.underlying32 Tryz.sizeOf101 j hj
        have d3:=HL.cell Hol.len j hj 3 _ rfl
        have hj0:decide ((j:Int) < 0)=false:=decide_eq_false (by omega)
        have HQ:Hid (atH l h e d=l[j].share):=Lib.hid (by have:=HC.out;rw [List.take_length] at this;unfold atH;rw [this];rfl)
        clear HL
        go_wp2_with fail
        go_ret
        rw [HQ.out]
        exact ⟨rfl,HW.out⟩
end Go.Proofs.YtoaidbhiciaeaaaGreat

end
section
namespace Go.Proofs.YtoaidbhiciaeaaaGreat
def dateB (d:Int):Bool:=decide (-25567≤d) && decide (d≤84005)
end Go.Proofs.YtoaidbhiciaeaaaGreat

end
