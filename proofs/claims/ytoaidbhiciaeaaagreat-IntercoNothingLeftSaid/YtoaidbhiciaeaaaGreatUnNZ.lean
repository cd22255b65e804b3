/- 'tallystone/tallystonelaw30.IntercoNothingLeft' holds: the proof of the given statement, from the walk of the law. No condition. -/
import Derived.Test.YtoaidbhiciaeaaaGreatPo43
import Derived.Test.YtoaidbhiciaeaaaGreatUnN
import Derived.Test.YtoaidbhiciaeaaaGreatUn0
set_option linter.unusedSimpArgs false
set_option linter.unusedVariables false
set_option maxHeartbeats 16000000
namespace Go.Proofs.YtoaidbhiciaeaaaGreat.intercoNothingLeft
open Go.ChangeShapes Go.WideShapes Go.ChangeAt Go.RowKit
open Go.ChangeMaps (open_string shut_string)
set_option maxRecDepth 100000 in
theorem lifted (os:Os) (started:os.Started) (H:Type) (enc:TypeId × Value→H) :
  ReturnsInHanded {} Tryz.checked os 7 .any (Rows.intercoNothingLeftSpec.pre6 enc Tryz.prog Tryz.f7 Rows.intercoNothingLeftRow.domain false) (Rows.intercoNothingLeftSpec.post enc Tryz.prog Tryz.f7 false true false false):=by
 refine returnsInHanded_of_change_sized (C:=Tryz.checked) own started (by kernel_rfl) Tryz.func7
  (ChangeSpec.witness6 (enc:=enc) (C:=Tryz.checked) false ⟨#[],#[.agg #[.string ⟨#[]⟩,.int .i64 0,.int .i64 0,.int .i64 0,.slice none 0 0,.int .i64 0,.int .i64 0,.int .i64 0,.int .i64 0,.int .i64 0,.int .i64 0,.int .i64 0,.int .i64 0,.int .i64 0,.int .i64 0,.int .i64 0,.int .i64 0,.int .i64 0,.int .i64 0,.int .i64 0,.slice none 0 0,.slice none 0 0,.slice none 0 0,.slice none 0 0,.slice none 0 0,.slice none 0 0,.string ⟨#[]⟩],.slice none 0 0,.int .i64 0],[]⟩ 8 (by kernel_rfl) (by kernel_rfl) (by kernel_rfl) (by kernel_rfl)) ?_
 intro W base args ds gs before hval0 hW hcnd hsz _
 have hval:∀ (j:Nat) t v,Tryz.f7.params[j]?=some t→args[j]?=some v→Value.okWide Tryz.prog W .any base t v:=hval0
 have hW':=hW
 obtain ⟨p,q,hA0,hV,rfl,hfz,hnd⟩:=hW
 have hA:DataW.TrodAll enc Tryz.prog W 0 (fun _=>true) true Tryz.f7.params.toList args.toList ds p:=hA0
 rw [Tryz.params7] at hA hval
 obtain ⟨v0,vs0,d0,ds0,p0,q0,hargs,rfl,rfl,h0,r0⟩:=trodAll_cons hA
 obtain ⟨v1,vs1,d1,ds1,p1,q1,rfl,rfl,rfl,h1,r1⟩:=trodAll_cons r0
 obtain ⟨v2,vs2,d2,ds2,p2,q2,rfl,rfl,rfl,h2,r2⟩:=trodAll_cons r1
 obtain ⟨rfl,rfl,rfl⟩:=trodAll_nil r2
 obtain rfl:args=#[v0,v1,v2]:=by cases args;simp_all
 obtain ⟨rfl,rfl⟩:=trodVars_none hV
 have k0:=h0
 have lt0:∀ x∈p0,x.block < W.heap.size:=by obtain ⟨m,hm⟩:=k0;exact DataW.trod_lt m _ _ _ hm
 have ok0:=hval 0 36 v0 rfl rfl
 have k1:=h1
 have lt1:∀ x∈p1,x.block < W.heap.size:=by obtain ⟨m,hm⟩:=k1;exact DataW.trod_lt m _ _ _ hm
 have ok1:=hval 1 37 v1 rfl rfl
 have k2:=h2
 have lt2:∀ x∈p2,x.block < W.heap.size:=by obtain ⟨m,hm⟩:=k2;exact DataW.trod_lt m _ _ _ hm
 have ok2:=hval 2 3 v2 rfl rfl
 obtain ⟨bv,g,es,hs,ms,rfl,HB0,HG0,HH0,HM0⟩:=open_bkg ok0 h0
 obtain ⟨items,ao1,cap1,b1,o1,rfl,HI1,HK1⟩:=open_items ok1 h1
 obtain ⟨p,rfl,rfl,rfl,wf2⟩:=open_int Tryz.underlying3 ok2 h2
 have hs0:∀ n∈d0.weights Tryz.prog 36,n≤reachBytes:=fun n hn=>by
  have:=List.all_eq_true.1 hsz n (DataW.weights_mem_each (j:=0) (t:=36) (by rw [Tryz.params7];rfl) rfl n hn)
  simpa using this
 have hsm:∀ m∈ms,m.x.left.length+m.x.right.length≤9223372036854775807:=fun m hm=>by
  have:=books_sized k0 HB0.bks hs0 m hm
  unfold reachBytes at this
  omega
 clear hA0 hval0
 refine (lawNo_any bv g es hs ms items p ao1 cap1 b1 o1 W HB0 HG0 HH0 HM0 HI1 HK1 hsm).mono fun e W' ⟨he,bel⟩=>?_
 subst he
 exact ⟨_,rfl,_,_,_,[],_,[],hW',trodAll_mk1 (shut_bool Tryz.underlying4 _),(trodAll_cons_mk (Below.trod laidOut (by kernel_rfl) (of_decide_eq_true (by kernel_rfl)) k0 bel lt0) (trodAll_cons_mk (Below.trod laidOut (by kernel_rfl) (of_decide_eq_true (by kernel_rfl)) k1 bel lt1) (trodAll_cons_mk (Below.trod laidOut (by kernel_rfl) (of_decide_eq_true (by kernel_rfl)) k2 bel lt2) trodAll_mk0))),rfl,bel.frame _,fun h=>by cases h⟩
theorem over:Rows.intercoNothingLeftRow.holds Tryz.pinned (OpenSpec.ofChange Rows.intercoNothingLeftSpec):=
 OpenClaim.holds_of_wide 7 Tryz.f7 rfl rfl rfl rfl rfl rfl rfl ⟨rfl,rfl,rfl,rfl,rfl⟩ rfl rfl rfl rfl rfl (by kernel_rfl) Tryz.func7 (by kernel_rfl)
  (of_decide_eq_true (by kernel_rfl)) (by unfold Func.isWrapper;first | (rw [if_pos (by decide +kernel)];kernel_rfl) | (rw [if_neg (by decide +kernel)];exact ⟨rfl,rfl⟩))
  (fun os started H enc _=>lifted os started H enc)
end Go.Proofs.YtoaidbhiciaeaaaGreat.intercoNothingLeft
namespace Go.Proofs.YtoaidbhiciaeaaaGreat
/-- THE STATEMENT. -/
theorem intercoNothingLeft_holds:Rows.IntercoNothingLeftSaid:=intercoNothingLeft.over
#print axioms intercoNothingLeft_holds
end Go.Proofs.YtoaidbhiciaeaaaGreat

