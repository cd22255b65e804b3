/- Walks and plain facts that the claim rests on (Exm, RI). No condition. -/
import Derived.Test.YtoaidbhiciaeaaaGreatCf32
import Derived.Test.YtoaidbhiciaeaaaGreatCf30
import Derived.Test.YtoaidbhiciaeaaaGreatCf23
section
namespace Go.Proofs.YtoaidbhiciaeaaaGreat
open Go.RowKit
set_option linter.unusedSimpArgs false
set_option linter.unusedVariables false
def x1S : Jrn := ⟨1, 0, 20470, 0, 0, ⟨#[]⟩, [⟨20, 100, 1⟩]⟩
def x2S : Jrn := ⟨2, 1, 20470, 0, 0, ⟨#[]⟩, [⟨60, -98, 0⟩]⟩
def mS : Mt := ⟨3, [⟨1, 0⟩], [⟨2, 0⟩], 4⟩
def hsS : List Hol := [⟨0, 1, -25567, 10000⟩]
def itS : List Itm := [⟨⟨1, 0⟩, 0, 1100, 1, 20470, 100⟩, ⟨⟨2, 0⟩, 1, 2000, 0, 20470, -98⟩]
def esS (l : Nat) (q : Nat) : List JV := [⟨x1S, some ⟨l, 0, none⟩, 1, l, 0⟩, ⟨x2S, some ⟨q, 0, none⟩, 1, q, 0⟩]
def msS (r q : Nat) : List MV := [⟨mS, some ⟨r, 0, none⟩, 1, r, 0, some ⟨q, 0, none⟩, 1, q, 0⟩]
def pstS : List Pst := [⟨3, 0, 3, 0, [⟨1100, -100⟩, ⟨2000, 98⟩, ⟨5600, 2⟩]⟩]
theorem datesS : datesC hsS = [-25567] := datesC_eq ⟨by simp [Asc], fun x => by simp [hsS, eq_comm]⟩
set_option maxRecDepth 100000 in
theorem fullS (en : Int) (h : ((curR (ivR (gS.ents.map Ent.joint) hsS [-25567] en) (dayB gS 0)).2 == 0 && (curR (ivR (gS.ents.map Ent.joint) hsS [-25567] en) (dayB gS 0)).1.mth == 3) = true) : fullB gS hsS (dayB gS 0) en = true := by
  unfold fullB curC
  rw [datesS]
  exact h
set_option maxRecDepth 100000 in
theorem grpS : grpB gS = true := by decide +kernel
set_option maxRecDepth 100000 in
theorem holS : hvalidB (gS.ents.length : Int) hsS = true := by decide +kernel
set_option maxRecDepth 100000 in
theorem allS (l q r t : Nat) : allMB (esS l q) (msS r t) = true := by kernel_rfl
set_option maxRecDepth 100000 in
theorem full0 : fullB gS hsS (dayB gS 0) 0 = true := fullS 0 (by decide +kernel)
set_option maxRecDepth 100000 in
theorem full1 : fullB gS hsS (dayB gS 0) 1 = true := fullS 1 (by decide +kernel)
set_option maxRecDepth 100000 in
theorem sidS (l q : Nat) : sidesR (esS l q) mS = (0, 1, 0) := by kernel_rfl
set_option maxRecDepth 100000 in
theorem refS : (mS.left ++ mS.right).all (refOk gS.rl.r7 itS (dayB gS 0)) = true := by decide +kernel
set_option maxRecDepth 100000 in
theorem postS : postR gS (dayA gS 0) (sortE [⟨3, 0, itS⟩]) = (pstS, 0) := by kernel_rfl
theorem errS (l q r t : Nat) : errI gS (esS l q) hsS (msS r t) 0 = 0 := by
  unfold errI
  rw [if_pos ⟨grpS, holS, allS l q r t⟩]
  rfl
theorem postsS (l q r t : Nat) : postsF gS (esS l q) hsS (msS r t) itS 0 = (pstS, 0) := by
  unfold postsF
  rw [if_pos (errS l q r t)]
  have hb : eliB gS (esS l q) hsS itS (dayB gS 0) mS = true := by
    unfold eliB
    rw [sidS]
    simp only [full0, full1, refS]
    rfl
  have he : elisR gS (esS l q) hsS itS (dayB gS 0) (msS r t) = [⟨3, 0, itS⟩] := by
    unfold elisR msS
    rw [List.filter_cons]
    simp only [hb, if_true, List.filter_nil, List.map_cons, List.map_nil]
    unfold eliM
    rw [sidS]
    rfl
  unfold elisS
  rw [he]
  exact postS
theorem okA_of (l : List Acc) (h : l.all (fun x => decide (-9223372036854775808 ≤ x.code) && decide (x.code ≤ 9223372036854775807) && decide (-9223372036854775808 ≤ x.parent) && decide (x.parent ≤ 9223372036854775807)) = true) : ∀ x ∈ l, x.OkA := fun x hx => by
  have := List.all_eq_true.1 h x hx
  simp only [Bool.and_eq_true, decide_eq_true_eq] at this
  exact ⟨⟨this.1.1.1, this.1.1.2⟩, this.1.2, this.2⟩
theorem okL_of (l : List Lnk) (h : l.all (fun x => decide (-9223372036854775808 ≤ x.frm) && decide (x.frm ≤ 9223372036854775807) && decide (-9223372036854775808 ≤ x.to) && decide (x.to ≤ 9223372036854775807) && decide (-9223372036854775808 ≤ x.since) && decide (x.since ≤ 9223372036854775807)) = true) : ∀ x ∈ l, x.OkL := fun x hx => by
  have := List.all_eq_true.1 h x hx
  simp only [Bool.and_eq_true, decide_eq_true_eq] at this
  exact ⟨⟨this.1.1.1.1.1, this.1.1.1.1.2⟩, ⟨this.1.1.1.2, this.1.1.2⟩, this.1.2, this.2⟩
set_option maxRecDepth 100000 in
theorem gS_ok : gS.Ok := by
  have he : ∀ (nm cu : ByteArray) (jt : Bool), nm.size ≤ maxLen → cu.size ≤ maxLen → (entS nm cu jt).Ok := fun nm cu jt h1 h2 =>
    ⟨h1, h2, by show (sAcc 14).length ≤ 200; rw [sAcc_len]; omega, by show (sLnk 14).length ≤ 400; rw [sLnk_len]; omega, okA_of (sAcc 14) (by decide +kernel), okL_of (sLnk 14) (by decide +kernel)⟩
  refine ⟨by decide +kernel, by decide +kernel, okA_of chF (by decide +kernel), fun q hq => ?_, fun e hm => ?_, by decide +kernel⟩
  · have h : (rolesL rlsS).all (fun q => decide (-9223372036854775808 ≤ q.code) && decide (q.code ≤ 9223372036854775807)) = true := by decide +kernel
    have := List.all_eq_true.1 h q hq
    simp only [Bool.and_eq_true, decide_eq_true_eq] at this
    exact this
  · simp only [gS, List.mem_cons, List.not_mem_nil, or_false] at hm
    rcases hm with rfl | rfl | rfl | rfl <;> exact he _ _ _ (by decide +kernel) (by decide +kernel)
theorem smallS (l q r t : Nat) : SmallB gS (esS l q) hsS (msS r t) itS := by
  refine ⟨gS_ok, fun e he => ?_, by decide, fun x hx => ?_, fun m hm => ?_, fun m hm => ?_, by simp [msS], by simp [itS], fun x hx => ?_⟩
  · simp only [esS, List.mem_cons, List.not_mem_nil, or_false] at he
    rcases he with rfl | rfl
    · exact (by decide : x1S.lines.length ≤ 8)
    · exact (by decide : x2S.lines.length ≤ 8)
  · simp only [hsS, List.mem_cons, List.not_mem_nil, or_false] at hx
    subst hx; unfold Hol.Ok I64; dsimp only; omega
  · simp only [msS, List.mem_cons, List.not_mem_nil, or_false] at hm
    subst hm; exact (by decide : mS.left.length ≤ 400 ∧ mS.right.length ≤ 400)
  · simp only [msS, List.mem_cons, List.not_mem_nil, or_false] at hm
    subst hm; show I64 (3 : Int); unfold I64; omega
  · simp only [itS, List.mem_cons, List.not_mem_nil, or_false] at hx
    rcases hx with rfl | rfl <;> (unfold Rf.Ok I64; dsimp only; omega)
theorem itS_ok : ∀ x ∈ itS, x.OkA := fun x hx => by
  simp only [itS, List.mem_cons, List.not_mem_nil, or_false] at hx
  rcases hx with rfl | rfl <;> (unfold Itm.OkA I64; dsimp only; omega)
theorem rowB_setCells {B : Nat} {t : TypeId} : ∀ (cs : List Value) (o : Nat) (W : World) (vs : List Value), RowB W B t vs → o + cs.length ≤ vs.length → RowB (W.setCells B o cs) B t (vs.take o ++ cs ++ vs.drop (o + cs.length))
  | [], o, W, vs, h, _ => by
    have : vs.take o ++ [] ++ vs.drop (o + ([] : List Value).length) = vs := by simp
    rw [this]; exact h
  | c :: cs, o, W, vs, h, hl => by
    simp only [List.length_cons] at hl
    have := rowB_setCells cs (o + 1) (W.setCell ⟨B, o, none⟩ c) (vs.set o c) (h.set o c) (by rw [List.length_set]; omega)
    have e : (vs.set o c).take (o + 1) ++ cs ++ (vs.set o c).drop (o + 1 + cs.length) = vs.take o ++ (c :: cs) ++ vs.drop (o + (c :: cs).length) := by
      rw [List.take_set, List.drop_set_of_lt (by omega), List.length_cons]
      have ht : (vs.take (o + 1)).set o c = vs.take o ++ [c] := by
        rw [List.take_succ_eq_append_getElem (by omega)]
        rw [List.set_append_right _ _ (by rw [List.length_take]; omega)]
        simp [Nat.min_eq_left (show o ≤ vs.length by omega)]
      rw [ht]
      simp only [List.append_assoc, List.cons_append, List.nil_append]
      rw [show o + 1 + cs.length = o + (cs.length + 1) from by omega]
    rw [e] at this
    exact this
theorem rowB_all {W : World} {B : Nat} {t : TypeId} {vs cs : List Value} (h : RowB W B t vs) (hl : cs.length = vs.length) : RowB (W.setCells B 0 cs) B t cs := by
  have := rowB_setCells cs 0 W vs h (by omega)
  rw [List.take_zero, List.nil_append, Nat.zero_add, hl, List.drop_length, List.append_nil] at this
  exact this
def bkS (cv ev es hv ms : Value) : List Value := gS.cells cv ev ++ [es, .slice none 0 0, hv, ms, .slice none 0 0, .string ⟨#[]⟩]
def zB : List Value := zG ++ [.slice none 0 0, .slice none 0 0, .slice none 0 0, .slice none 0 0, .slice none 0 0, .string ⟨#[]⟩]
theorem bkS_one {cv ev es hv ms : Value} (h1 : cv.oneCell' = true) (h2 : ev.oneCell' = true) (h3 : es.oneCell' = true) (h4 : hv.oneCell' = true) (h5 : ms.oneCell' = true) : ∀ v ∈ bkS cv ev es hv ms, v.oneCell' = true := by
  intro v hv
  unfold bkS at hv
  rcases List.mem_append.1 hv with h | h
  · exact gS_one gS cv ev h1 h2 v h
  · simp only [List.mem_cons, List.not_mem_nil, or_false] at h
    rcases h with rfl | rfl | rfl | rfl | rfl | rfl <;> first | rfl | assumption
set_option maxRecDepth 100000 in
theorem wpList_bbk {w : World} {ops : Array Oper} {rest : List Oper} {op : Oper} {a : Act} {Q : Exit → Act → World → Prop} (hgd : op.guard = none) (s t : Operand) (ho : op.op = Op.build 36 #[(0, s), (3, t)])
    (cv ev : Value) (ah : Option Addr) (nh ch : Nat) (hs : a.eval s = .agg (gS.cells cv ev).toArray) (ht : a.eval t = .slice ah nh ch)
    (h : wpList Tryz.prog ops Q rest (a.put op.dst (.agg (bkS cv ev (.slice none 0 0) (.slice ah nh ch) (.slice none 0 0)).toArray)) w) : wpList Tryz.prog ops Q (op :: rest) a w := by
  refine wpList_plain hgd fun KK hKK => ?_
  have hr : (Instr.build 36 #[(0, .agg (gS.cells cv ev).toArray), (3, .slice ah nh ch)]).run Tryz.prog w = .ok (.agg (bkS cv ev (.slice none 0 0) (.slice ah nh ch) (.slice none 0 0)).toArray) w := run_build w _ _ _ (by kernel_rfl)
  unfold Oper.wp
  simp only [execOp, ho]
  simp [hs, ht, hr, Result.andThen]
  exact hKK _ _ h
end Go.Proofs.YtoaidbhiciaeaaaGreat

end
section
namespace Go.Proofs.YtoaidbhiciaeaaaGreat
open Go.RowKit
set_option linter.unusedVariables false
section
variable {P : Program} {ops : Array Oper} {Q : Exit → Act → World → Prop}
theorem inv_any {A : (Nat → Value) → Act} {a : Act} (hd : dstsApart ops = true) (he : edgesOk ops = true) (hA : ∀ f, putAll ops a f ops.size = A f) (I : Array Bool → (Nat → Value) → World → Prop)
    (hstep : ∀ listed f w' i o, listed.size = ops.size → I listed f w' → ops[i]? = some o → listed.getD i false = false → (∀ e ∈ o.after, Region.binds .any e = true → listed.getD e.on false = true) →
      if Region.wanted o (yielded ops (A f).tmps) = true then o.wp P (A f) w' (fun a2 w2 => ∃ v, a2 = (A f).put o.dst v ∧ I (listed.setIfInBounds i true) (upd2 f i v) w2) Q else I (listed.setIfInBounds i true) (upd2 f i undef) w')
    (hend : ∀ listed f w', (∀ i < ops.size, listed.getD i false = true) → I listed f w' → Q .normal (A f) w') :
    ∀ (fuel : Nat) (listed : Array Bool) (f : Nat → Value) (w' : World), listed.size = ops.size → I listed f w' → unl listed ops.size ≤ fuel → wpAny P .any ops Q fuel listed (A f) w' := by
  intro fuel
  induction fuel with
  | zero =>
    intro listed f w' hs hI hf
    have hall := unl_zero (Nat.le_zero.1 hf)
    refine ⟨?_, hend listed f w' hall hI⟩
    refine List.eq_nil_iff_forall_not_mem.2 fun i hi => ?_
    obtain ⟨h0, o, ho, _⟩ := mem_ready.1 hi
    have hlt := (Array.getElem?_eq_some_iff.1 ho).1
    rw [getD_tf (by omega), hall i hlt] at h0
    cases h0
  | succ fuel ih =>
    intro listed f w' hs hI hf
    refine ⟨fun hr => hend listed f w' (ready_of_unl he hs hr) hI, fun i hi => ?_⟩
    obtain ⟨h0, o, ho, hall⟩ := mem_ready.1 hi
    have hlt := (Array.getElem?_eq_some_iff.1 ho).1
    rw [getD_tf (by omega)] at h0
    have hs1 := hstep listed f w' i o hs hI ho h0 hall
    have key : ∀ v w2, I (listed.setIfInBounds i true) (upd2 f i v) w2 → wpAny P .any ops Q fuel (listed.setIfInBounds i true) ((A f).put o.dst v) w2 := by
      intro v w2 hv
      have hg : A (upd2 f i v) = (A f).put o.dst v := by
        rw [← hA, ← hA, putAll_upd hd (f := f) (i := i) (v := v) (fun j hj => by simp [upd2, hj]) (by simp [upd2]) hlt (Nat.le_refl _), ho]
        rfl
      rw [← hg]
      exact ih _ _ w2 (by simpa using hs) hv (by have := unl_set (by omega) h0 hlt; omega)
    unfold wpOp
    simp only [ho]
    split
    · rename_i hw1
      rw [if_pos hw1] at hs1
      refine .inl (Oper.wp_mono ?_ hs1)
      rintro a2 w2 ⟨v, rfl, hv⟩
      exact key v w2 hv
    · rename_i hw1
      rw [if_neg hw1] at hs1
      exact key undef w' hs1
theorem wp_region_inv {id : Nat} {a : Act} {w : World} {A : (Nat → Value) → Act} (ds : List (Option Tmp)) (hm : P.follows .mixedOrders = true) (hds : ops.toList.map (·.dst) = ds) (hd : dstsApart ops = true) (he : edgesOk ops = true) (hA : ∀ f, putL f ds 0 a = A f)
    (I : Array Bool → (Nat → Value) → World → Prop) (h0 : ∀ f, I (Array.replicate ops.size false) f w.drew)
    (hstep : ∀ listed f w' i o, listed.size = ops.size → I listed f w' → ops[i]? = some o → listed.getD i false = false → (∀ e ∈ o.after, Region.binds .any e = true → listed.getD e.on false = true) →
      if Region.wanted o (yielded ops (A f).tmps) = true then o.wp P (A f) w' (fun a2 w2 => ∃ v, a2 = (A f).put o.dst v ∧ I (listed.setIfInBounds i true) (upd2 f i v) w2) Q else I (listed.setIfInBounds i true) (upd2 f i undef) w')
    (hend : ∀ listed f w', (∀ i < ops.size, listed.getD i false = true) → I listed f w' → Q .normal (A f) w') : (Code.region id ops true).wp P Q a w := by
  have hA' : ∀ f, putAll ops a f ops.size = A f := fun f => by
    rw [putAll_putL _ (Nat.le_refl _), ← hA, ← hds]
    rw [List.take_of_length_le (by simp)]
  refine wp_region_any hm ?_
  have h1 := putAll_self (ops := ops) (a := a) (f := fun i => (match (ops[i]?).bind (·.dst) with | some d => a.tmps.getD d undef | none => undef)) (fun i => rfl) ops.size
  rw [hA'] at h1
  rw [← h1]
  refine inv_any hd he hA' I hstep hend _ _ _ _ (by simp) (h0 _) ?_
  have : ∀ (l : Array Bool) k, unl l k ≤ k := by
    intro l k
    induction k with
    | zero => exact Nat.le_refl _
    | succ k ih => simp only [unl]; split <;> omega
  exact this _ _
end
def BoxI (W0 : World) (T : TypeId) (bv : List Value) (m k : Nat) (listed : Array Bool) (f : Nat → Value) (w : World) : Prop := listed.getD m false = true → ∃ b cs, f m = .pointer (some ⟨b, 0, none⟩) ∧ W0.heap.size ≤ b ∧ RowB w b T cs ∧ cs.length = bv.length ∧ (listed.getD k false = true → cs = bv)
structure Cp2 (W0 : World) (T : TypeId) (bv : List Value) (listed : Array Bool) (f : Nat → Value) (w : World) : Prop where
  kp : Keeps W0 w
  sz : listed.size = 6
  l0 : listed.getD 0 false = true → f 0 = .agg bv.toArray
  l1 : listed.getD 1 false = true → f 1 = .agg bv.toArray
  b2 : BoxI W0 T bv 2 4 listed f w
  b3 : BoxI W0 T bv 3 5 listed f w
  ne : listed.getD 2 false = true → listed.getD 3 false = true → f 2 ≠ f 3
  c4 : listed.getD 4 false = true → listed.getD 2 false = true
  c5 : listed.getD 5 false = true → listed.getD 3 false = true
variable {W0 : World} {T : TypeId} {bv : List Value} {listed : Array Bool} {f : Nat → Value} {w w2 : World}
theorem getD_set_true' {i : Nat} (h : i < listed.size) : (listed.setIfInBounds i true).getD i false = true := by simp [h]
theorem rep_false (n j : Nat) : (Array.replicate n false).getD j false = false := by
  by_cases h : j < n <;> simp [h]
theorem Cp2.start : Cp2 w T bv (Array.replicate 6 false) f w.drew := by
  refine ⟨(Keeps.refl w).drew, by simp, ?_, ?_, ?_, ?_, ?_, ?_, ?_⟩ <;> intro h <;> rw [rep_false] at h <;> cases h
theorem getD_upd {i j : Nat} (h : i ≠ j) : (listed.setIfInBounds i true).getD j false = listed.getD j false := getD_set_ne false h
theorem BoxI.skip {m k i : Nat} {v : Value} (h : BoxI W0 T bv m k listed f w) (hm : i ≠ m) (hk : i ≠ k) (hw : ∀ b cs, RowB w b T cs → RowB w2 b T cs) : BoxI W0 T bv m k (listed.setIfInBounds i true) (upd2 f i v) w2 := fun hl => by
  rw [getD_upd hm] at hl
  obtain ⟨b, cs, h1, h2, h3, h4, h5⟩ := h hl
  exact ⟨b, cs, by unfold upd2; rw [if_neg (fun e => hm e.symm)]; exact h1, h2, hw b cs h3, h4, fun hk2 => h5 (by rw [getD_upd hk] at hk2; exact hk2)⟩
theorem upd2_ne {i j : Nat} {v : Value} (h : j ≠ i) : upd2 f i v j = f j := by unfold upd2; rw [if_neg h]
theorem upd2_same {i : Nat} {v : Value} : upd2 f i v i = v := by unfold upd2; rw [if_pos rfl]
theorem Cp2.load0 (H : Cp2 W0 T bv listed f w) : Cp2 W0 T bv (listed.setIfInBounds 0 true) (upd2 f 0 (.agg bv.toArray)) w :=
  ⟨H.kp, by simpa using H.sz, fun _ => upd2_same, fun h => by rw [upd2_ne (by omega)]; exact H.l1 (by rw [getD_upd (by omega)] at h; exact h), H.b2.skip (by omega) (by omega) (fun _ _ h => h), H.b3.skip (by omega) (by omega) (fun _ _ h => h), fun h1 h2 => by
    rw [upd2_ne (by omega), upd2_ne (by omega)]; rw [getD_upd (by omega)] at h1 h2; exact H.ne h1 h2, fun h => by rw [getD_upd (by omega)] at h ⊢; exact H.c4 h, fun h => by rw [getD_upd (by omega)] at h ⊢; exact H.c5 h⟩
theorem Cp2.load1 (H : Cp2 W0 T bv listed f w) : Cp2 W0 T bv (listed.setIfInBounds 1 true) (upd2 f 1 (.agg bv.toArray)) w :=
  ⟨H.kp, by simpa using H.sz, fun h => by rw [upd2_ne (by omega)]; exact H.l0 (by rw [getD_upd (by omega)] at h; exact h), fun _ => upd2_same, H.b2.skip (by omega) (by omega) (fun _ _ h => h), H.b3.skip (by omega) (by omega) (fun _ _ h => h), fun h1 h2 => by
    rw [upd2_ne (by omega), upd2_ne (by omega)]; rw [getD_upd (by omega)] at h1 h2; exact H.ne h1 h2, fun h => by rw [getD_upd (by omega)] at h ⊢; exact H.c4 h, fun h => by rw [getD_upd (by omega)] at h ⊢; exact H.c5 h⟩
theorem Cp2.alloc2 (H : Cp2 W0 T bv listed f w) {cs : List Value} (hl : cs.length = bv.length) (h4 : listed.getD 4 false = false) : Cp2 W0 T bv (listed.setIfInBounds 2 true) (upd2 f 2 (.pointer (some ⟨w.heap.size, 0, none⟩))) (w.alloc (.cells cs.toArray T)) :=
  ⟨H.kp.alloc _, by simpa using H.sz, fun h => by rw [upd2_ne (by omega)]; exact H.l0 (by rw [getD_upd (by omega)] at h; exact h), fun h => by rw [upd2_ne (by omega)]; exact H.l1 (by rw [getD_upd (by omega)] at h; exact h),
    fun _ => ⟨_, cs, upd2_same, H.kp.size, RowB.new _ _ _, hl, fun h => by rw [getD_upd (by omega), h4] at h; cases h⟩, H.b3.skip (by omega) (by omega) (fun _ _ h => h.alloc _), fun h1 h2 => by
    rw [upd2_same, upd2_ne (by omega)]; rw [getD_upd (by omega)] at h2
    obtain ⟨b, c, e, _, hb, _⟩ := H.b3 h2
    rw [e]; intro e2
    have := hb.lt
    simp only [Value.pointer.injEq, Option.some.injEq, Addr.mk.injEq, and_true] at e2
    omega, fun _ => getD_set_true' (by have := H.sz; omega), fun h => by rw [getD_upd (by omega)] at h ⊢; exact H.c5 h⟩
theorem Cp2.alloc3 (H : Cp2 W0 T bv listed f w) {cs : List Value} (hl : cs.length = bv.length) (h5 : listed.getD 5 false = false) : Cp2 W0 T bv (listed.setIfInBounds 3 true) (upd2 f 3 (.pointer (some ⟨w.heap.size, 0, none⟩))) (w.alloc (.cells cs.toArray T)) :=
  ⟨H.kp.alloc _, by simpa using H.sz, fun h => by rw [upd2_ne (by omega)]; exact H.l0 (by rw [getD_upd (by omega)] at h; exact h), fun h => by rw [upd2_ne (by omega)]; exact H.l1 (by rw [getD_upd (by omega)] at h; exact h),
    H.b2.skip (by omega) (by omega) (fun _ _ h => h.alloc _), fun _ => ⟨_, cs, upd2_same, H.kp.size, RowB.new _ _ _, hl, fun h => by rw [getD_upd (by omega), h5] at h; cases h⟩, fun h1 h2 => by
    rw [upd2_same, upd2_ne (by omega)]; rw [getD_upd (by omega)] at h1
    obtain ⟨b, c, e, _, hb, _⟩ := H.b2 h1
    rw [e]; intro e2
    have := hb.lt
    simp only [Value.pointer.injEq, Option.some.injEq, Addr.mk.injEq, and_true] at e2
    omega, fun h => by rw [getD_upd (by omega)] at h ⊢; exact H.c4 h, fun _ => getD_set_true' (by have := H.sz; omega)⟩
theorem RowB.sets_other {B b : Nat} {cs vs : List Value} (h : RowB w b T cs) (hne : b ≠ B) : RowB (w.setCells B 0 vs) b T cs := by
  have : ∀ (vs : List Value) (o : Nat) (W : World), RowB W b T cs → RowB (W.setCells B o vs) b T cs := by
    intro vs
    induction vs with
    | nil => exact fun _ _ h => h
    | cons v vs ih => exact fun o W h => ih (o + 1) _ (h.other (p := ⟨B, o, none⟩) (fun e => hne e.symm) v)
  exact this vs 0 w h
theorem rowB_thereI {b : Nat} {vs : List Value} (h : RowB w b T vs) : w.there b 0 vs.length := fun j hj => by
  rw [Nat.zero_add]
  exact ⟨by rw [h.cell j vs[j] (List.getElem?_eq_getElem hj)]; rfl, h.frozen j⟩
theorem Cp2.store4 (H : Cp2 W0 T bv listed f w) (h2 : listed.getD 2 false = true) {v : Value} : ∃ b, f 2 = .pointer (some ⟨b, 0, none⟩) ∧ w.there b 0 bv.length ∧ Cp2 W0 T bv (listed.setIfInBounds 4 true) (upd2 f 4 v) (w.setCells b 0 bv) := by
  obtain ⟨b, cs, e, hb, hr, hl, _⟩ := H.b2 h2
  refine ⟨b, e, by rw [← hl]; exact rowB_thereI hr, keeps_setCellsP hb _ _ _ H.kp, by simpa using H.sz, fun h => by rw [upd2_ne (by omega)]; exact H.l0 (by rw [getD_upd (by omega)] at h; exact h), fun h => by rw [upd2_ne (by omega)]; exact H.l1 (by rw [getD_upd (by omega)] at h; exact h), fun _ => ⟨b, bv, by rw [upd2_ne (by omega)]; exact e, hb, rowB_all hr hl.symm, rfl, fun _ => rfl⟩, fun hl3 => ?_, fun h1 h2 => by
    rw [upd2_ne (by omega), upd2_ne (by omega)]; rw [getD_upd (by omega)] at h1 h2; exact H.ne h1 h2, fun _ => by rw [getD_upd (by omega)]; exact h2, fun h => by rw [getD_upd (by omega)] at h ⊢; exact H.c5 h⟩
  rw [getD_upd (by omega)] at hl3
  obtain ⟨b', cs', e', hb', hr', hl', h5'⟩ := H.b3 hl3
  refine ⟨b', cs', by rw [upd2_ne (by omega)]; exact e', hb', hr'.sets_other (fun eb => ?_), hl', fun h => h5' (by rw [getD_upd (by omega)] at h; exact h)⟩
  exact H.ne h2 hl3 (by rw [e, e', eb])
theorem Cp2.store5 (H : Cp2 W0 T bv listed f w) (h3 : listed.getD 3 false = true) {v : Value} : ∃ b, f 3 = .pointer (some ⟨b, 0, none⟩) ∧ w.there b 0 bv.length ∧ Cp2 W0 T bv (listed.setIfInBounds 5 true) (upd2 f 5 v) (w.setCells b 0 bv) := by
  obtain ⟨b, cs, e, hb, hr, hl, _⟩ := H.b3 h3
  refine ⟨b, e, by rw [← hl]; exact rowB_thereI hr, keeps_setCellsP hb _ _ _ H.kp, by simpa using H.sz, fun h => by rw [upd2_ne (by omega)]; exact H.l0 (by rw [getD_upd (by omega)] at h; exact h), fun h => by rw [upd2_ne (by omega)]; exact H.l1 (by rw [getD_upd (by omega)] at h; exact h), fun hl2 => ?_, fun _ => ⟨b, bv, by rw [upd2_ne (by omega)]; exact e, hb, rowB_all hr hl.symm, rfl, fun _ => rfl⟩, fun h1 h2 => by
    rw [upd2_ne (by omega), upd2_ne (by omega)]; rw [getD_upd (by omega)] at h1 h2; exact H.ne h1 h2, fun h => by rw [getD_upd (by omega)] at h ⊢; exact H.c4 h, fun _ => by rw [getD_upd (by omega)]; exact h3⟩
  rw [getD_upd (by omega)] at hl2
  obtain ⟨b', cs', e', hb', hr', hl', h5'⟩ := H.b2 hl2
  refine ⟨b', cs', by rw [upd2_ne (by omega)]; exact e', hb', hr'.sets_other (fun eb => ?_), hl', fun h => h5' (by rw [getD_upd (by omega)] at h; exact h)⟩
  exact H.ne hl2 h3 (by rw [e, e', eb])
end Go.Proofs.YtoaidbhiciaeaaaGreat

end
