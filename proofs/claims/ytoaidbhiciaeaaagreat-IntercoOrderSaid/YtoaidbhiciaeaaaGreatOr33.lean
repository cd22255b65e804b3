/- Walks and plain facts that the claim rests on (Exm, RI, Exw). No condition. -/
import Derived.Test.YtoaidbhiciaeaaaGreatOr32
import Derived.Test.YtoaidbhiciaeaaaGreatOr30
import Derived.Test.YtoaidbhiciaeaaaGreatOr23
section
namespace Go.Proofs.YtoaidbhiciaeaaaGreat
open Go.RowKit
set_option linter.unusedSimpArgs false
set_option linter.unusedVariables false
def x1S : Jrn := ⟨1, 0, 20470, 0, 0, ⟨#[]⟩, [⟨20, 100, 1⟩]⟩
def x2S : Jrn := ⟨2, 1, 20470, 0, 0, ⟨#[]⟩, [⟨60, -98, 0⟩]⟩
def mS : Mt := ⟨3, [⟨1, 0⟩], [⟨2, 0⟩], 4⟩
def hsS : List Hol := [⟨0, 1, -25567, 10000⟩]
def itS : List Itm := [⟨⟨1, 0⟩, 0, 1100, 1, 20470, 100⟩, ⟨⟨2, 0⟩, 1, 2000, 0, 20470, -98⟩]
def esS (l : Nat) (q : Nat) : List JV := [⟨x1S, some ⟨l, 0, none⟩, 1, l, 0⟩, ⟨x2S, some ⟨q, 0, none⟩, 1, q, 0⟩]
def msS (r q : Nat) : List MV := [⟨mS, some ⟨r, 0, none⟩, 1, r, 0, some ⟨q, 0, none⟩, 1, q, 0⟩]
def pstS : List Pst := [⟨3, 0, 3, 0, [⟨1100, -100⟩, ⟨2000, 98⟩, ⟨5600, 2⟩]⟩]
theorem datesS : datesC hsS = [-25567] := datesC_eq ⟨by simp [Asc], fun x => by simp [hsS, eq_comm]⟩
set_option maxRecDepth 100000 in
theorem fullS (en : Int) (h : ((curR (ivR (gS.ents.map Ent.joint) hsS [-25567] en) (dayB gS 0)).2 == 0 && (curR (ivR (gS.ents.map Ent.joint) hsS [-25567] en) (dayB gS 0)).1.mth == 3) = true) : fullB gS hsS (dayB gS 0) en = true := by
  unfold fullB curC
  rw [datesS]
  exact h
set_option maxRecDepth 100000 in
theorem grpS : grpB gS = true := by decide +kernel
set_option maxRecDepth 100000 in
theorem holS : hvalidB (gS.ents.length : Int) hsS = true := by decide +kernel
set_option maxRecDepth 100000 in
theorem allS (l q r t : Nat) : allMB (esS l q) (msS r t) = true := by kernel_rfl
set_option maxRecDepth 100000 in
theorem full0 : fullB gS hsS (dayB gS 0) 0 = true := fullS 0 (by decide +kernel)
set_option maxRecDepth 100000 in
theorem full1 : fullB gS hsS (dayB gS 0) 1 = true := fullS 1 (by decide +kernel)
set_option maxRecDepth 100000 in
theorem sidS (l q : Nat) : sidesR (esS l q) mS = (0, 1, 0) := by kernel_rfl
set_option maxRecDepth 100000 in
theorem refS : (mS.left ++ mS.right).all (refOk gS.rl.r7 itS (dayB gS 0)) = true := by decide +kernel
set_option maxRecDepth 100000 in
theorem postS : postR gS (dayA gS 0) (sortE [⟨3, 0, itS⟩]) = (pstS, 0) := by kernel_rfl
theorem errS (l q r t : Nat) : errI gS (esS l q) hsS (msS r t) 0 = 0 := by
  unfold errI
  rw [if_pos ⟨grpS, holS, allS l q r t⟩]
  rfl
theorem postsS (l q r t : Nat) : postsF gS (esS l q) hsS (msS r t) itS 0 = (pstS, 0) := by
  unfold postsF
  rw [if_pos (errS l q r t)]
  have hb : eliB gS (esS l q) hsS itS (dayB gS 0) mS = true := by
    unfold eliB
    rw [sidS]
    simp only [full0, full1, refS]
    rfl
  have he : elisR gS (esS l q) hsS itS (dayB gS 0) (msS r t) = [⟨3, 0, itS⟩] := by
    unfold elisR msS
    rw [List.filter_cons]
    simp only [hb, if_true, List.filter_nil, List.map_cons, List.map_nil]
    unfold eliM
    rw [sidS]
    rfl
  unfold elisS
  rw [he]
  exact postS
theorem okA_of (l : List Acc) (h : l.all (fun x => decide (-9223372036854775808 ≤ x.code) && decide (x.code ≤ 9223372036854775807) && decide (-9223372036854775808 ≤ x.parent) && decide (x.parent ≤ 9223372036854775807)) = true) : ∀ x ∈ l, x.OkA := fun x hx => by
  have := List.all_eq_true.1 h x hx
  simp only [Bool.and_eq_true, decide_eq_true_eq] at this
  exact ⟨⟨this.1.1.1, this.1.1.2⟩, this.1.2, this.2⟩
theorem okL_of (l : List Lnk) (h : l.all (fun x => decide (-9223372036854775808 ≤ x.frm) && decide (x.frm ≤ 9223372036854775807) && decide (-9223372036854775808 ≤ x.to) && decide (x.to ≤ 9223372036854775807) && decide (-9223372036854775808 ≤ x.since) && decide (x.since ≤ 9223372036854775807)) = true) : ∀ x ∈ l, x.OkL := fun x hx => by
  have := List.all_eq_true.1 h x hx
  simp only [Bool.and_eq_true, decide_eq_true_eq] at this
  exact ⟨⟨this.1.1.1.1.1, this.1.1.1.1.2⟩, ⟨this.1.1.1.2, this.1.1.2⟩, this.1.2, this.2⟩
set_option maxRecDepth 100000 in
theorem gS_ok : gS.Ok := by
  have he : ∀ (nm cu : ByteArray) (jt : Bool), nm.size ≤ maxLen → cu.size ≤ maxLen → (entS nm cu jt).Ok := fun nm cu jt h1 h2 =>
    ⟨h1, h2, by show (sAcc 14).length ≤ 200; rw [sAcc_len]; omega, by show (sLnk 14).length ≤ 400; rw [sLnk_len]; omega, okA_of (sAcc 14) (by decide +kernel), okL_of (sLnk 14) (by decide +kernel)⟩
  refine ⟨by decide +kernel, by decide +kernel, okA_of chF (by decide +kernel), fun q hq => ?_, fun e hm => ?_, by decide +kernel⟩
  · have h : (rolesL rlsS).all (fun q => decide (-9223372036854775808 ≤ q.code) && decide (q.code ≤ 9223372036854775807)) = true := by decide +kernel
    have := List.all_eq_true.1 h q hq
    simp only [Bool.and_eq_true, decide_eq_true_eq] at this
    exact this
  · simp only [gS, List.mem_cons, List.not_mem_nil, or_false] at hm
    rcases hm with rfl | rfl | rfl | rfl <;> exact he _ _ _ (by decide +kernel) (by decide +kernel)
theorem smallS (l q r t : Nat) : SmallB gS (esS l q) hsS (msS r t) itS := by
  refine ⟨gS_ok, fun e he => ?_, by decide, fun x hx => ?_, fun m hm => ?_, fun m hm => ?_, by simp [msS], by simp [itS], fun x hx => ?_⟩
  · simp only [esS, List.mem_cons, List.not_mem_nil, or_false] at he
    rcases he with rfl | rfl
    · exact (by decide : x1S.lines.length ≤ 8)
    · exact (by decide : x2S.lines.length ≤ 8)
  · simp only [hsS, List.mem_cons, List.not_mem_nil, or_false] at hx
    subst hx; unfold Hol.Ok I64; dsimp only; omega
  · simp only [msS, List.mem_cons, List.not_mem_nil, or_false] at hm
    subst hm; exact (by decide : mS.left.length ≤ 400 ∧ mS.right.length ≤ 400)
  · simp only [msS, List.mem_cons, List.not_mem_nil, or_false] at hm
    subst hm; show I64 (3 : Int); unfold I64; omega
  · simp only [itS, List.mem_cons, List.not_mem_nil, or_false] at hx
    rcases hx with rfl | rfl <;> (unfold Rf.Ok I64; dsimp only; omega)
theorem itS_ok : ∀ x ∈ itS, x.OkA := fun x hx => by
  simp only [itS, List.mem_cons, List.not_mem_nil, or_false] at hx
  rcases hx with rfl | rfl <;> (unfold Itm.OkA I64; dsimp only; omega)
theorem rowB_setCells {B : Nat} {t : TypeId} : ∀ (cs : List Value) (o : Nat) (W : World) (vs : List Value), RowB W B t vs → o + cs.length ≤ vs.length → RowB (W.setCells B o cs) B t (vs.take o ++ cs ++ vs.drop (o + cs.length))
  | [], o, W, vs, h, _ => by
    have : vs.take o ++ [] ++ vs.drop (o + ([] : List Value).length) = vs := by simp
    rw [this]; exact h
  | c :: cs, o, W, vs, h, hl => by
    simp only [List.length_cons] at hl
    have := rowB_setCells cs (o + 1) (W.setCell ⟨B, o, none⟩ c) (vs.set o c) (h.set o c) (by rw [List.length_set]; omega)
    have e : (vs.set o c).take (o + 1) ++ cs ++ (vs.set o c).drop (o + 1 + cs.length) = vs.take o ++ (c :: cs) ++ vs.drop (o + (c :: cs).length) := by
      rw [List.take_set, List.drop_set_of_lt (by omega), List.length_cons]
      have ht : (vs.take (o + 1)).set o c = vs.take o ++ [c] := by
        rw [List.take_succ_eq_append_getElem (by omega)]
        rw [List.set_append_right _ _ (by rw [List.length_take]; omega)]
        simp [Nat.min_eq_left (show o ≤ vs.length by omega)]
      rw [ht]
      simp only [List.append_assoc, List.cons_append, List.nil_append]
      rw [show o + 1 + cs.length = o + (cs.length + 1) from by omega]
    rw [e] at this
    exact this
theorem rowB_all {W : World} {B : Nat} {t : TypeId} {vs cs : List Value} (h : RowB W B t vs) (hl : cs.length = vs.length) : RowB (W.setCells B 0 cs) B t cs := by
  have := rowB_setCells cs 0 W vs h (by omega)
  rw [List.take_zero, List.nil_append, Nat.zero_add, hl, List.drop_length, List.append_nil] at this
  exact this
def bkS (cv ev es hv ms : Value) : List Value := gS.cells cv ev ++ [es, .slice none 0 0, hv, ms, .slice none 0 0, .string ⟨#[]⟩]
def zB : List Value := zG ++ [.slice none 0 0, .slice none 0 0, .slice none 0 0, .slice none 0 0, .slice none 0 0, .string ⟨#[]⟩]
theorem bkS_one {cv ev es hv ms : Value} (h1 : cv.oneCell' = true) (h2 : ev.oneCell' = true) (h3 : es.oneCell' = true) (h4 : hv.oneCell' = true) (h5 : ms.oneCell' = true) : ∀ v ∈ bkS cv ev es hv ms, v.oneCell' = true := by
  intro v hv
  unfold bkS at hv
  rcases List.mem_append.1 hv with h | h
  · exact gS_one gS cv ev h1 h2 v h
  · simp only [List.mem_cons, List.not_mem_nil, or_false] at h
    rcases h with rfl | rfl | rfl | rfl | rfl | rfl <;> first | rfl | assumption
set_option maxRecDepth 100000 in
theorem wpList_bbk {w : World} {ops : Array Oper} {rest : List Oper} {op : Oper} {a : Act} {Q : Exit → Act → World → Prop} (hgd : op.guard = none) (s t : Operand) (ho : op.op = Op.build 36 #[(0, s), (3, t)])
    (cv ev : Value) (ah : Option Addr) (nh ch : Nat) (hs : a.eval s = .agg (gS.cells cv ev).toArray) (ht : a.eval t = .slice ah nh ch)
    (h : wpList Tryz.prog ops Q rest (a.put op.dst (.agg (bkS cv ev (.slice none 0 0) (.slice ah nh ch) (.slice none 0 0)).toArray)) w) : wpList Tryz.prog ops Q (op :: rest) a w := by
  refine wpList_plain hgd fun KK hKK => ?_
  have hr : (Instr.build 36 #[(0, .agg (gS.cells cv ev).toArray), (3, .slice ah nh ch)]).run Tryz.prog w = .ok (.agg (bkS cv ev (.slice none 0 0) (.slice ah nh ch) (.slice none 0 0)).toArray) w := run_build w _ _ _ (by kernel_rfl)
  unfold Oper.wp
  simp only [execOp, ho]
  simp [hs, ht, hr, Result.andThen]
  exact hKK _ _ h
end Go.Proofs.YtoaidbhiciaeaaaGreat

end
section
namespace Go.Proofs.YtoaidbhiciaeaaaGreat
open Go.RowKit
set_option linter.unusedVariables false
section
variable {P : Program} {ops : Array Oper} {Q : Exit → Act → World → Prop}
end
def BoxI (W0 : World) (T : TypeId) (bv : List Value) (m k : Nat) (listed : Array Bool) (f : Nat → Value) (w : World) : Prop := listed.getD m false = true → ∃ b cs, f m = .pointer (some ⟨b, 0, none⟩) ∧ W0.heap.size ≤ b ∧ RowB w b T cs ∧ cs.length = bv.length ∧ (listed.getD k false = true → cs = bv)
structure Cp2 (W0 : World) (T : TypeId) (bv : List Value) (listed : Array Bool) (f : Nat → Value) (w : World) : Prop where
  kp : Keeps W0 w
  sz : listed.size = 6
  l0 : listed.getD 0 false = true → f 0 = .agg bv.toArray
  l1 : listed.getD 1 false = true → f 1 = .agg bv.toArray
  b2 : BoxI W0 T bv 2 4 listed f w
  b3 : BoxI W0 T bv 3 5 listed f w
  ne : listed.getD 2 false = true → listed.getD 3 false = true → f 2 ≠ f 3
  c4 : listed.getD 4 false = true → listed.getD 2 false = true
  c5 : listed.getD 5 false = true → listed.getD 3 false = true
variable {W0 : World} {T : TypeId} {bv : List Value} {listed : Array Bool} {f : Nat → Value} {w w2 : World}
theorem rep_false (n j : Nat) : (Array.replicate n false).getD j false = false := by
  by_cases h : j < n <;> simp [h]
theorem Cp2.start : Cp2 w T bv (Array.replicate 6 false) f w.drew := by
  refine ⟨(Keeps.refl w).drew, by simp, ?_, ?_, ?_, ?_, ?_, ?_, ?_⟩ <;> intro h <;> rw [rep_false] at h <;> cases h
theorem getD_upd {i j : Nat} (h : i ≠ j) : (listed.setIfInBounds i true).getD j false = listed.getD j false := getD_set_ne false h
theorem BoxI.skip {m k i : Nat} {v : Value} (h : BoxI W0 T bv m k listed f w) (hm : i ≠ m) (hk : i ≠ k) (hw : ∀ b cs, RowB w b T cs → RowB w2 b T cs) : BoxI W0 T bv m k (listed.setIfInBounds i true) (upd2 f i v) w2 := fun hl => by
  rw [getD_upd hm] at hl
  obtain ⟨b, cs, h1, h2, h3, h4, h5⟩ := h hl
  exact ⟨b, cs, by unfold upd2; rw [if_neg (fun e => hm e.symm)]; exact h1, h2, hw b cs h3, h4, fun hk2 => h5 (by rw [getD_upd hk] at hk2; exact hk2)⟩
end Go.Proofs.YtoaidbhiciaeaaaGreat

end
section
namespace Go.Proofs.YtoaidbhiciaeaaaGreat
open Go.RowKit
set_option linter.unusedSimpArgs false
set_option linter.unusedVariables false
theorem rowB_there {W : World} {B : Nat} {t : TypeId} {vs : List Value} (h : RowB W B t vs) : W.there B 0 vs.length := fun j hj => by
  rw [Nat.zero_add]
  exact ⟨by rw [h.cell j vs[j] (List.getElem?_eq_getElem hj)]; rfl, h.frozen j⟩
theorem x1S_ok : x1S.Ok := by
  unfold Jrn.Ok x1S I64
  refine ⟨by dsimp only; omega, by dsimp only; omega, by dsimp only; omega, by dsimp only; omega, by dsimp only; omega, fun l hl => ?_⟩
  simp only [List.mem_cons, List.not_mem_nil, or_false] at hl
  subst hl; unfold Ln.Ok I64; dsimp only; omega
theorem x2S_ok : x2S.Ok := by
  unfold Jrn.Ok x2S I64
  refine ⟨by dsimp only; omega, by dsimp only; omega, by dsimp only; omega, by dsimp only; omega, by dsimp only; omega, fun l hl => ?_⟩
  simp only [List.mem_cons, List.not_mem_nil, or_false] at hl
  subst hl; unfold Ln.Ok I64; dsimp only; omega
theorem mS_ok : mS.Ok := by
  refine ⟨fun r hr => ?_, fun r hr => ?_⟩ <;> (simp only [mS, List.mem_cons, List.not_mem_nil, or_false] at hr; subst hr; unfold Rf.Ok I64; dsimp only; omega)
theorem exam_world (W2 V : World) (hV : V.heap.size = W2.heap.size) :
    Keeps V ((((((V.alloc (.cells #[.int .i64 20, .int .i64 100, .int .i64 1] 103)).alloc (.cells #[.int .i64 60, .int .i64 (-98), .int .i64 0] 103)).alloc (.cells #[.int .i64 1, .int .i64 0, .int .i64 20470, .int .i64 0, .int .i64 0, .string ⟨#[]⟩, .slice (some ⟨W2.heap.size, 0, none⟩) 1 1, .int .i64 2, .int .i64 1, .int .i64 20470, .int .i64 0, .int .i64 0, .string ⟨#[]⟩, .slice (some ⟨W2.heap.size + 1, 0, none⟩) 1 1] 56)).alloc (.cells #[.int .i64 1, .int .i64 0] 51)).alloc (.cells #[.int .i64 2, .int .i64 0] 51)).alloc (.cells #[.int .i64 3, .slice (some ⟨W2.heap.size + 3, 0, none⟩) 1 1, .slice (some ⟨W2.heap.size + 4, 0, none⟩) 1 1, .int .i64 4] 48)) ∧ Jrns ((((((V.alloc (.cells #[.int .i64 20, .int .i64 100, .int .i64 1] 103)).alloc (.cells #[.int .i64 60, .int .i64 (-98), .int .i64 0] 103)).alloc (.cells #[.int .i64 1, .int .i64 0, .int .i64 20470, .int .i64 0, .int .i64 0, .string ⟨#[]⟩, .slice (some ⟨W2.heap.size, 0, none⟩) 1 1, .int .i64 2, .int .i64 1, .int .i64 20470, .int .i64 0, .int .i64 0, .string ⟨#[]⟩, .slice (some ⟨W2.heap.size + 1, 0, none⟩) 1 1] 56)).alloc (.cells #[.int .i64 1, .int .i64 0] 51)).alloc (.cells #[.int .i64 2, .int .i64 0] 51)).alloc (.cells #[.int .i64 3, .slice (some ⟨W2.heap.size + 3, 0, none⟩) 1 1, .slice (some ⟨W2.heap.size + 4, 0, none⟩) 1 1, .int .i64 4] 48)) (esS W2.heap.size (W2.heap.size + 1)) (some ⟨W2.heap.size + 2, 0, none⟩) 2 (W2.heap.size + 2) 0 ∧ Mts ((((((V.alloc (.cells #[.int .i64 20, .int .i64 100, .int .i64 1] 103)).alloc (.cells #[.int .i64 60, .int .i64 (-98), .int .i64 0] 103)).alloc (.cells #[.int .i64 1, .int .i64 0, .int .i64 20470, .int .i64 0, .int .i64 0, .string ⟨#[]⟩, .slice (some ⟨W2.heap.size, 0, none⟩) 1 1, .int .i64 2, .int .i64 1, .int .i64 20470, .int .i64 0, .int .i64 0, .string ⟨#[]⟩, .slice (some ⟨W2.heap.size + 1, 0, none⟩) 1 1] 56)).alloc (.cells #[.int .i64 1, .int .i64 0] 51)).alloc (.cells #[.int .i64 2, .int .i64 0] 51)).alloc (.cells #[.int .i64 3, .slice (some ⟨W2.heap.size + 3, 0, none⟩) 1 1, .slice (some ⟨W2.heap.size + 4, 0, none⟩) 1 1, .int .i64 4] 48)) (msS (W2.heap.size + 3) (W2.heap.size + 4)) (some ⟨W2.heap.size + 5, 0, none⟩) 1 (W2.heap.size + 5) 0 := by
  obtain ⟨A1, e1⟩ : ∃ A, V.alloc (.cells #[.int .i64 20, .int .i64 100, .int .i64 1] 103) = A := ⟨_, rfl⟩
  have z1 : A1.heap.size = W2.heap.size + 1 := by rw [← e1]; simp [hV]
  have g1 : Keeps V A1 := by rw [← e1]; exact (Keeps.refl V).alloc _
  have s1 : Sl A1 3 (some ⟨W2.heap.size, 0, none⟩) 1 1 W2.heap.size 0 [.int .i64 20, .int .i64 100, .int .i64 1] := by rw [← e1, ← hV]; exact Sl.lit V 3 1 _ _ rfl (by omega)
  rw [e1]
  obtain ⟨A2, e2⟩ : ∃ A, A1.alloc (.cells #[.int .i64 60, .int .i64 (-98), .int .i64 0] 103) = A := ⟨_, rfl⟩
  have z2 : A2.heap.size = W2.heap.size + 2 := by rw [← e2]; simp [z1]
  have g2 : Keeps A1 A2 := by rw [← e2]; exact (Keeps.refl A1).alloc _
  have s2 : Sl A2 3 (some ⟨W2.heap.size + 1, 0, none⟩) 1 1 (W2.heap.size + 1) 0 [.int .i64 60, .int .i64 (-98), .int .i64 0] := by rw [← e2, ← z1]; exact Sl.lit A1 3 1 _ _ rfl (by omega)
  rw [e2]
  obtain ⟨A3, e3⟩ : ∃ A, A2.alloc (.cells #[.int .i64 1, .int .i64 0, .int .i64 20470, .int .i64 0, .int .i64 0, .string ⟨#[]⟩, .slice (some ⟨W2.heap.size, 0, none⟩) 1 1, .int .i64 2, .int .i64 1, .int .i64 20470, .int .i64 0, .int .i64 0, .string ⟨#[]⟩, .slice (some ⟨W2.heap.size + 1, 0, none⟩) 1 1] 56) = A := ⟨_, rfl⟩
  have z3 : A3.heap.size = W2.heap.size + 3 := by rw [← e3]; simp [z2]
  have g3 : Keeps A2 A3 := by rw [← e3]; exact (Keeps.refl A2).alloc _
  have s3 : Sl A3 7 (some ⟨W2.heap.size + 2, 0, none⟩) 2 2 (W2.heap.size + 2) 0 [.int .i64 1, .int .i64 0, .int .i64 20470, .int .i64 0, .int .i64 0, .string ⟨#[]⟩, .slice (some ⟨W2.heap.size, 0, none⟩) 1 1, .int .i64 2, .int .i64 1, .int .i64 20470, .int .i64 0, .int .i64 0, .string ⟨#[]⟩, .slice (some ⟨W2.heap.size + 1, 0, none⟩) 1 1] := by rw [← e3, ← z2]; exact Sl.lit A2 7 2 _ _ rfl (by omega)
  rw [e3]
  obtain ⟨A5, e5⟩ : ∃ A, A3.alloc (.cells #[.int .i64 1, .int .i64 0] 51) = A := ⟨_, rfl⟩
  have z5 : A5.heap.size = W2.heap.size + 4 := by rw [← e5]; simp [z3]
  have g5 : Keeps A3 A5 := by rw [← e5]; exact (Keeps.refl A3).alloc _
  have s5 : Sl A5 2 (some ⟨W2.heap.size + 3, 0, none⟩) 1 1 (W2.heap.size + 3) 0 [.int .i64 1, .int .i64 0] := by rw [← e5, ← z3]; exact Sl.lit A3 2 1 _ _ rfl (by omega)
  rw [e5]
  obtain ⟨A6, e6⟩ : ∃ A, A5.alloc (.cells #[.int .i64 2, .int .i64 0] 51) = A := ⟨_, rfl⟩
  have z6 : A6.heap.size = W2.heap.size + 5 := by rw [← e6]; simp [z5]
  have g6 : Keeps A5 A6 := by rw [← e6]; exact (Keeps.refl A5).alloc _
  have s6 : Sl A6 2 (some ⟨W2.heap.size + 4, 0, none⟩) 1 1 (W2.heap.size + 4) 0 [.int .i64 2, .int .i64 0] := by rw [← e6, ← z5]; exact Sl.lit A5 2 1 _ _ rfl (by omega)
  rw [e6]
  have g7 : Keeps A6 (A6.alloc (.cells #[.int .i64 3, .slice (some ⟨W2.heap.size + 3, 0, none⟩) 1 1, .slice (some ⟨W2.heap.size + 4, 0, none⟩) 1 1, .int .i64 4] 48)) := (Keeps.refl A6).alloc _
  have s7 : Sl (A6.alloc (.cells #[.int .i64 3, .slice (some ⟨W2.heap.size + 3, 0, none⟩) 1 1, .slice (some ⟨W2.heap.size + 4, 0, none⟩) 1 1, .int .i64 4] 48)) 4 (some ⟨W2.heap.size + 5, 0, none⟩) 1 1 (W2.heap.size + 5) 0 [.int .i64 3, .slice (some ⟨W2.heap.size + 3, 0, none⟩) 1 1, .slice (some ⟨W2.heap.size + 4, 0, none⟩) 1 1, .int .i64 4] := by rw [← z6]; exact Sl.lit A6 4 1 _ _ rfl (by omega)
  have t6 := g7
  have t5 := g6.trans t6
  have t3 := g5.trans t5
  have t2 := g3.trans t3
  have t1 := g2.trans t2
  refine ⟨g1.trans t1, ⟨Sl.keeps s3 t3, fun e he => ?_⟩, ⟨s7, fun m hm => ?_, fun m hm => ?_⟩⟩
  · simp only [esS, List.mem_cons, List.not_mem_nil, or_false] at he
    rcases he with rfl | rfl
    · exact Sl.keeps s1 t1
    · exact Sl.keeps s2 t2
  · simp only [msS, List.mem_cons, List.not_mem_nil, or_false] at hm
    subst hm
    exact Sl.keeps s5 t5
  · simp only [msS, List.mem_cons, List.not_mem_nil, or_false] at hm
    subst hm
    exact Sl.keeps s6 t6
set_option maxRecDepth 100000 in
set_option maxHeartbeats 8000000 in
theorem example_any (w : World) : Calls Tryz.prog 22 #[] w fun e w' => ∃ (bv : List Value) (l q r t : Nat) (ai : Option Addr) (ci bi : Nat), e = .returned (.tuple #[.agg bv.toArray, .slice ai 2 ci]) ∧ BkG w' bv gS (esS l q) hsS (msS r t) ∧ Recs w' 7 Itm.cells ai itS ci bi 0 ∧ Keeps w w' := by
  have hb0 : RowB (w.alloc (.cells #[.string ⟨#[]⟩, .int .i64 0, .int .i64 0, .int .i64 0, .slice none 0 0, .int .i64 0, .int .i64 0, .int .i64 0, .int .i64 0, .int .i64 0, .int .i64 0, .int .i64 0, .int .i64 0, .int .i64 0, .int .i64 0, .int .i64 0, .int .i64 0, .int .i64 0, .int .i64 0, .int .i64 0, .slice none 0 0, .slice none 0 0, .slice none 0 0, .slice none 0 0, .slice none 0 0, .slice none 0 0, .string ⟨#[]⟩] 36)) w.heap.size 36 zB := RowB.new w _ _
  have hk0 : Keeps w (w.alloc (.cells #[.string ⟨#[]⟩, .int .i64 0, .int .i64 0, .int .i64 0, .slice none 0 0, .int .i64 0, .int .i64 0, .int .i64 0, .int .i64 0, .int .i64 0, .int .i64 0, .int .i64 0, .int .i64 0, .int .i64 0, .int .i64 0, .int .i64 0, .int .i64 0, .int .i64 0, .int .i64 0, .int .i64 0, .slice none 0 0, .slice none 0 0, .slice none 0 0, .slice none 0 0, .slice none 0 0, .slice none 0 0, .string ⟨#[]⟩] 36)) := (Keeps.refl w).alloc _
  obtain ⟨W1, hW1⟩ : ∃ W1, w.alloc (.cells #[.string ⟨#[]⟩, .int .i64 0, .int .i64 0, .int .i64 0, .slice none 0 0, .int .i64 0, .int .i64 0, .int .i64 0, .int .i64 0, .int .i64 0, .int .i64 0, .int .i64 0, .int .i64 0, .int .i64 0, .int .i64 0, .int .i64 0, .int .i64 0, .int .i64 0, .int .i64 0, .int .i64 0, .slice none 0 0, .slice none 0 0, .slice none 0 0, .slice none 0 0, .slice none 0 0, .slice none 0 0, .string ⟨#[]⟩] 36) = W1 := ⟨_, rfl⟩
  rw [hW1] at hb0 hk0
  have HB0 := Lib.hid hb0
  have HK0 := Lib.hid hk0
  clear hb0 hk0
  go_enter Tryz.func22, Tryz.ntmps22
  go_upto_region 1 with fail
  try rw [hW1]
  clear hW1
  go_upto_region 2 with (first | (go_at_call 37; (refine (sample_any _).mono ?_); rintro e1 w1 ⟨aoC, capC, bC, aoE, capE, bE, rfl, hC, hk1⟩; have HC1 := Lib.hid hC; have K1 := Lib.hid (HK0.out.trans hk1); have KK1 := Lib.hid hk1; clear hC hk1) | (refine wpList_bbk rfl _ _ rfl (.slice aoC gS.chart.length capC) (.slice aoE gS.ents.length capE) (some ⟨w1.heap.size, 0, none⟩) 1 1 rfl rfl ?_) | (refine wpList_store_mid rfl 36 _ _ rfl (w1.heap.size + 1) 0 ((bkS (.slice aoC gS.chart.length capC) (.slice aoE gS.ents.length capE) (.slice none 0 0) (.slice (some ⟨w1.heap.size, 0, none⟩) 1 1) (.slice none 0 0))).toArray rfl rfl (by have := there_newP (w1.alloc (.cells #[.int .i64 0, .int .i64 1, .int .i64 (-25567), .int .i64 10000] 101)) 36 zB; rw [World.size_alloc] at this; exact this) booksSize (all_oneCell_toArray (bkS_one rfl rfl rfl rfl rfl)) ?_))
  have hb2 : RowB (((w1.alloc (.cells #[.int .i64 0, .int .i64 1, .int .i64 (-25567), .int .i64 10000] 101)).alloc (.cells #[.string ⟨#[]⟩, .int .i64 0, .int .i64 0, .int .i64 0, .slice none 0 0, .int .i64 0, .int .i64 0, .int .i64 0, .int .i64 0, .int .i64 0, .int .i64 0, .int .i64 0, .int .i64 0, .int .i64 0, .int .i64 0, .int .i64 0, .int .i64 0, .int .i64 0, .int .i64 0, .int .i64 0, .slice none 0 0, .slice none 0 0, .slice none 0 0, .slice none 0 0, .slice none 0 0, .slice none 0 0, .string ⟨#[]⟩] 36)).setCells (w1.heap.size + 1) 0 ((bkS (.slice aoC gS.chart.length capC) (.slice aoE gS.ents.length capE) (.slice none 0 0) (.slice (some ⟨w1.heap.size, 0, none⟩) 1 1) (.slice none 0 0)))) (w1.heap.size + 1) 36 ((bkS (.slice aoC gS.chart.length capC) (.slice aoE gS.ents.length capE) (.slice none 0 0) (.slice (some ⟨w1.heap.size, 0, none⟩) 1 1) (.slice none 0 0))) := by
    have := RowB.new (w1.alloc (.cells #[.int .i64 0, .int .i64 1, .int .i64 (-25567), .int .i64 10000] 101)) 36 zB
    rw [World.size_alloc] at this
    exact rowB_all this rfl
  have hk2 : Keeps w1 (((w1.alloc (.cells #[.int .i64 0, .int .i64 1, .int .i64 (-25567), .int .i64 10000] 101)).alloc (.cells #[.string ⟨#[]⟩, .int .i64 0, .int .i64 0, .int .i64 0, .slice none 0 0, .int .i64 0, .int .i64 0, .int .i64 0, .int .i64 0, .int .i64 0, .int .i64 0, .int .i64 0, .int .i64 0, .int .i64 0, .int .i64 0, .int .i64 0, .int .i64 0, .int .i64 0, .int .i64 0, .int .i64 0, .slice none 0 0, .slice none 0 0, .slice none 0 0, .slice none 0 0, .slice none 0 0, .slice none 0 0, .string ⟨#[]⟩] 36)).setCells (w1.heap.size + 1) 0 ((bkS (.slice aoC gS.chart.length capC) (.slice aoE gS.ents.length capE) (.slice none 0 0) (.slice (some ⟨w1.heap.size, 0, none⟩) 1 1) (.slice none 0 0)))) := keeps_setCellsP (Nat.le_succ _) _ _ _ (((Keeps.refl w1).alloc _).alloc _)
  have hh2 : Hols (((w1.alloc (.cells #[.int .i64 0, .int .i64 1, .int .i64 (-25567), .int .i64 10000] 101)).alloc (.cells #[.string ⟨#[]⟩, .int .i64 0, .int .i64 0, .int .i64 0, .slice none 0 0, .int .i64 0, .int .i64 0, .int .i64 0, .int .i64 0, .int .i64 0, .int .i64 0, .int .i64 0, .int .i64 0, .int .i64 0, .int .i64 0, .int .i64 0, .int .i64 0, .int .i64 0, .int .i64 0, .int .i64 0, .slice none 0 0, .slice none 0 0, .slice none 0 0, .slice none 0 0, .slice none 0 0, .slice none 0 0, .string ⟨#[]⟩] 36)).setCells (w1.heap.size + 1) 0 ((bkS (.slice aoC gS.chart.length capC) (.slice aoE gS.ents.length capE) (.slice none 0 0) (.slice (some ⟨w1.heap.size, 0, none⟩) 1 1) (.slice none 0 0)))) (some ⟨w1.heap.size, 0, none⟩) hsS 1 w1.heap.size 0 := sl_setCells (Sl.keeps (Sl.lit w1 4 1 [.int .i64 0, .int .i64 1, .int .i64 (-25567), .int .i64 10000] 101 rfl (by omega)) ((Keeps.refl _).alloc _)) (by omega) _ _
  have hz2 : w1.heap.size + 2 = (((w1.alloc (.cells #[.int .i64 0, .int .i64 1, .int .i64 (-25567), .int .i64 10000] 101)).alloc (.cells #[.string ⟨#[]⟩, .int .i64 0, .int .i64 0, .int .i64 0, .slice none 0 0, .int .i64 0, .int .i64 0, .int .i64 0, .int .i64 0, .int .i64 0, .int .i64 0, .int .i64 0, .int .i64 0, .int .i64 0, .int .i64 0, .int .i64 0, .int .i64 0, .int .i64 0, .int .i64 0, .int .i64 0, .slice none 0 0, .slice none 0 0, .slice none 0 0, .slice none 0 0, .slice none 0 0, .slice none 0 0, .string ⟨#[]⟩] 36)).setCells (w1.heap.size + 1) 0 ((bkS (.slice aoC gS.chart.length capC) (.slice aoE gS.ents.length capE) (.slice none 0 0) (.slice (some ⟨w1.heap.size, 0, none⟩) 1 1) (.slice none 0 0)))).heap.size := by rw [size_sets]; simp
  obtain ⟨W2, hW2⟩ : ∃ W2, (((w1.alloc (.cells #[.int .i64 0, .int .i64 1, .int .i64 (-25567), .int .i64 10000] 101)).alloc (.cells #[.string ⟨#[]⟩, .int .i64 0, .int .i64 0, .int .i64 0, .slice none 0 0, .int .i64 0, .int .i64 0, .int .i64 0, .int .i64 0, .int .i64 0, .int .i64 0, .int .i64 0, .int .i64 0, .int .i64 0, .int .i64 0, .int .i64 0, .int .i64 0, .int .i64 0, .int .i64 0, .int .i64 0, .slice none 0 0, .slice none 0 0, .slice none 0 0, .slice none 0 0, .slice none 0 0, .slice none 0 0, .string ⟨#[]⟩] 36)).setCells (w1.heap.size + 1) 0 ((bkS (.slice aoC gS.chart.length capC) (.slice aoE gS.ents.length capE) (.slice none 0 0) (.slice (some ⟨w1.heap.size, 0, none⟩) 1 1) (.slice none 0 0)))) = W2 := ⟨_, rfl⟩
  rw [hW2] at hb2 hk2 hh2 hz2 ⊢
  clear hW2
  have HH2 := Lib.hid hh2
  have HK2 := Lib.hid hk2
  obtain ⟨X2, hX2⟩ : ∃ X2, w1.heap.size + 1 = X2 := ⟨_, rfl⟩
  have hlx : w1.heap.size < X2 := by omega
  rw [hX2] at hb2 ⊢
  clear hX2
  have HLX := Lib.hid hlx
  have HB2 := Lib.hid hb2
  have x21 : W2.cell? ⟨X2, 21, none⟩ = some (.slice none 0 0) := RowB.cell hb2 21 _ rfl
  have x24 : W2.cell? ⟨X2, 24, none⟩ = some (.slice none 0 0) := RowB.cell hb2 24 _ rfl
  have y21 := RowB.frozen hb2 21
  have y24 := RowB.frozen hb2 24
  have hzz := hb2.lt
  have hzz1 : X2 < W2.heap.size + 1 := by omega
  have hzz2 : X2 < W2.heap.size + 1 + 1 := by omega
  have hzz3 : X2 < W2.heap.size + 1 + 1 + 1 := by omega
  have hzz4 : X2 < W2.heap.size + 1 + 1 + 1 + 1 := by omega
  have hzz5 : X2 < W2.heap.size + 1 + 1 + 1 + 1 + 1 := by omega
  have hzz6 : X2 < W2.heap.size + 1 + 1 + 1 + 1 + 1 + 1 := by omega
  clear hb2 hk2 hh2 hz2 hlx
  go_upto_region 4 with fail
  have hv21 := (HB2.out.set 21 (.slice (some ⟨W2.heap.size + 2, 0, none⟩) 2 2)).set 24 (.slice (some ⟨W2.heap.size + 5, 0, none⟩) 1 1)
  obtain ⟨V, hV⟩ : ∃ V, (W2.setCell ⟨X2, 21, none⟩ (.slice (some ⟨W2.heap.size + 2, 0, none⟩) 2 2)).setCell ⟨X2, 24, none⟩ (.slice (some ⟨W2.heap.size + 5, 0, none⟩) 1 1) = V := ⟨_, rfl⟩
  have hkv : Keeps w1 V := by rw [← hV]; exact (HK2.out.setCell (p := ⟨X2, 21, none⟩) (Nat.le_of_lt HLX.out) _).setCell (p := ⟨X2, 24, none⟩) (Nat.le_of_lt HLX.out) _
  have hgv : W2.grownBy V (some X2) := by rw [← hV]; exact (grown_set _ _ _ _).trans (grown_set _ _ _ _)
  have hsv : V.heap.size = W2.heap.size := by rw [← hV, World.size_setCell, World.size_setCell]
  rw [hV] at hv21
  have HXW := Lib.hid (exam_world W2 V hsv)
  rw [show (W2.setCell ⟨X2, 21, none⟩ (.slice (some ⟨W2.heap.size + 1 + 1, 0, none⟩) 2 2)).setCell ⟨X2, 24, none⟩ (.slice (some ⟨W2.heap.size + 1 + 1 + 1 + 1 + 1, 0, none⟩) 1 1) = V from hV]
  have HH3 : Hid (Hols V (some ⟨w1.heap.size, 0, none⟩) hsS 1 w1.heap.size 0) := Lib.hid (Sl.grownR HH2.out hgv (fun e => by have := Option.some.inj e; have := HLX.out; omega))
  have HV21 := Lib.hid hv21
  have HKV := Lib.hid hkv
  have HSV := Lib.hid hsv
  clear hv21 hkv hgv hsv hV x21 x24 y21 y24 hzz hzz1 hzz2 hzz3 hzz4 hzz5 hzz6
  obtain ⟨W8, hW8⟩ : ∃ W8, ((((((V.alloc (.cells #[.int .i64 20, .int .i64 100, .int .i64 1] 103)).alloc (.cells #[.int .i64 60, .int .i64 (-98), .int .i64 0] 103)).alloc (.cells #[.int .i64 1, .int .i64 0, .int .i64 20470, .int .i64 0, .int .i64 0, .string ⟨#[]⟩, .slice (some ⟨W2.heap.size, 0, none⟩) 1 1, .int .i64 2, .int .i64 1, .int .i64 20470, .int .i64 0, .int .i64 0, .string ⟨#[]⟩, .slice (some ⟨W2.heap.size + 1, 0, none⟩) 1 1] 56)).alloc (.cells #[.int .i64 1, .int .i64 0] 51)).alloc (.cells #[.int .i64 2, .int .i64 0] 51)).alloc (.cells #[.int .i64 3, .slice (some ⟨W2.heap.size + 3, 0, none⟩) 1 1, .slice (some ⟨W2.heap.size + 4, 0, none⟩) 1 1, .int .i64 4] 48)) = W8 := ⟨_, rfl⟩
  rw [hW8] at HXW
  rw [show ((((((V.alloc (.cells #[.int .i64 20, .int .i64 100, .int .i64 1] 103)).alloc (.cells #[.int .i64 60, .int .i64 (-98), .int .i64 0] 103)).alloc (.cells #[.int .i64 1, .int .i64 0, .int .i64 20470, .int .i64 0, .int .i64 0, .string ⟨#[]⟩, .slice (some ⟨W2.heap.size, 0, none⟩) 1 1, .int .i64 2, .int .i64 1, .int .i64 20470, .int .i64 0, .int .i64 0, .string ⟨#[]⟩, .slice (some ⟨W2.heap.size + 1, 0, none⟩) 1 1] 56)).alloc (.cells #[.int .i64 1, .int .i64 0] 51)).alloc (.cells #[.int .i64 2, .int .i64 0] 51)).alloc (.cells #[.int .i64 3, .slice (some ⟨W2.heap.size + 1 + 1 + 1, 0, none⟩) 1 1, .slice (some ⟨W2.heap.size + 1 + 1 + 1 + 1, 0, none⟩) 1 1, .int .i64 4] 48)) = W8 from hW8]
  have hz8 : W8.heap.size = W2.heap.size + 6 := by rw [← hW8]; simp [HSV.out]
  clear hW8
  have hbk : RowB W8 X2 36 ((bkS (.slice aoC gS.chart.length capC) (.slice aoE gS.ents.length capE) (.slice (some ⟨W2.heap.size + 2, 0, none⟩) 2 2) (.slice (some ⟨w1.heap.size, 0, none⟩) 1 1) (.slice (some ⟨W2.heap.size + 5, 0, none⟩) 1 1))) := RowB.keeps (show RowB V X2 36 ((bkS (.slice aoC gS.chart.length capC) (.slice aoE gS.ents.length capE) (.slice (some ⟨W2.heap.size + 2, 0, none⟩) 2 2) (.slice (some ⟨w1.heap.size, 0, none⟩) 1 1) (.slice (some ⟨W2.heap.size + 5, 0, none⟩) 1 1))) from HV21.out) HXW.out.1
  have HBK := Lib.hid hbk
  have hkw : Keeps W1 (W8.alloc (.cells #[.int .i64 1, .int .i64 0, .int .i64 0, .int .i64 1100, .int .i64 1, .int .i64 20470, .int .i64 100, .int .i64 2, .int .i64 0, .int .i64 1, .int .i64 2000, .int .i64 0, .int .i64 20470, .int .i64 (-98)] 53)) := (KK1.out.trans (HKV.out.trans HXW.out.1)).alloc _
  have HTH : Hid ((W8.alloc (.cells #[.int .i64 1, .int .i64 0, .int .i64 0, .int .i64 1100, .int .i64 1, .int .i64 20470, .int .i64 100, .int .i64 2, .int .i64 0, .int .i64 1, .int .i64 2000, .int .i64 0, .int .i64 20470, .int .i64 (-98)] 53)).there w.heap.size 0 27) := Lib.hid (there_keeps (rowB_there HB0.out) hkw)
  have hlt : w.heap.size < W1.heap.size := HB0.out.lt
  have hl1 : W1.heap.size ≤ w1.heap.size := KK1.out.size
  have hl2 : w1.heap.size ≤ W2.heap.size := HK2.out.size
  have HKW := Lib.hid hkw
  clear hbk hkw
  go_wp2_with (first | (refine wpList_rowG 36 _ rfl rfl X2 ((bkS (.slice aoC gS.chart.length capC) (.slice aoE gS.ents.length capE) (.slice (some ⟨W2.heap.size + 2, 0, none⟩) 2 2) (.slice (some ⟨w1.heap.size, 0, none⟩) 1 1) (.slice (some ⟨W2.heap.size + 5, 0, none⟩) 1 1))) _ rfl (RowB.range HBK.out) Tryz.underlying36 rfl booksSize ?_) | (refine wpList_store_mid rfl 36 _ _ rfl w.heap.size 0 ((bkS (.slice aoC gS.chart.length capC) (.slice aoE gS.ents.length capE) (.slice (some ⟨W2.heap.size + 2, 0, none⟩) 2 2) (.slice (some ⟨w1.heap.size, 0, none⟩) 1 1) (.slice (some ⟨W2.heap.size + 5, 0, none⟩) 1 1))).toArray rfl rfl HTH.out booksSize (all_oneCell_toArray (bkS_one rfl rfl rfl rfl rfl)) ?_))
  refine bodyPost_ret (results_row_tmp rfl _ _ w.heap.size ((bkS (.slice aoC gS.chart.length capC) (.slice aoE gS.ents.length capE) (.slice (some ⟨W2.heap.size + 2, 0, none⟩) 2 2) (.slice (some ⟨w1.heap.size, 0, none⟩) 1 1) (.slice (some ⟨W2.heap.size + 5, 0, none⟩) 1 1))) _ rfl (World.rangeAt_setCells_same _ _ _ _ HTH.out) Tryz.underlying36 rfl booksSize) rfl ?_
  have k8 : Keeps W8 (W8.alloc (.cells #[.int .i64 1, .int .i64 0, .int .i64 0, .int .i64 1100, .int .i64 1, .int .i64 20470, .int .i64 100, .int .i64 2, .int .i64 0, .int .i64 1, .int .i64 2000, .int .i64 0, .int .i64 20470, .int .i64 (-98)] 53)) := (Keeps.refl W8).alloc _
  have hs1 := ((HC1.out.keeps (HKV.out.trans (HXW.out.1.trans k8))).set (B := w.heap.size) (Nat.le_of_lt hlt) ((bkS (.slice aoC gS.chart.length capC) (.slice aoE gS.ents.length capE) (.slice (some ⟨W2.heap.size + 2, 0, none⟩) 2 2) (.slice (some ⟨w1.heap.size, 0, none⟩) 1 1) (.slice (some ⟨W2.heap.size + 5, 0, none⟩) 1 1))))
  have hw1 : w1.heap.size ≠ w.heap.size := by omega
  have hsit := Sl.lit W8 7 2 (itS.flatMap Itm.cells) 53 rfl (by omega)
  rw [hz8] at hsit
  refine ⟨(bkS (.slice aoC gS.chart.length capC) (.slice aoE gS.ents.length capE) (.slice (some ⟨W2.heap.size + 2, 0, none⟩) 2 2) (.slice (some ⟨w1.heap.size, 0, none⟩) 1 1) (.slice (some ⟨W2.heap.size + 5, 0, none⟩) 1 1)), W2.heap.size, W2.heap.size + 1, W2.heap.size + 3, W2.heap.size + 4, some ⟨W2.heap.size + 6, 0, none⟩, 2, W2.heap.size + 6, rfl, ⟨⟨rfl, bkS_one rfl rfl rfl rfl rfl, ⟨_, _, _, _, rfl, (HXW.out.2.1.keeps k8).setCells (by omega) (fun e he => ?_) _ _⟩, ⟨_, _, _, _, rfl, sl_setCells (HXW.out.2.2.keeps k8).row (by omega) _ _, fun m hm => sl_setCells ((HXW.out.2.2.keeps k8).left m hm) ?_ _ _, fun m hm => sl_setCells ((HXW.out.2.2.keeps k8).right m hm) ?_ _ _⟩, fun e he => ?_, fun m hm => ?_⟩, ⟨aoC, capC, bC, 0, aoE, capE, bE, 0, fun j v hv => ?_, hs1.2.1, hs1.ents⟩, ⟨_, _, _, _, rfl, sl_setCells (Sl.keeps HH3.out (HXW.out.1.trans k8)) hw1 _ _⟩⟩, sl_setCells hsit (by omega) _ _, keeps_setCellsP (Nat.le_refl _) _ _ _ (HK0.out.trans HKW.out)⟩
  · simp only [esS, List.mem_cons, List.not_mem_nil, or_false] at he
    rcases he with rfl | rfl <;> (dsimp only; omega)
  · simp only [msS, List.mem_cons, List.not_mem_nil, or_false] at hm
    subst hm; dsimp only; omega
  · simp only [msS, List.mem_cons, List.not_mem_nil, or_false] at hm
    subst hm; dsimp only; omega
  · simp only [esS, List.mem_cons, List.not_mem_nil, or_false] at he
    rcases he with rfl | rfl
    · exact x1S_ok
    · exact x2S_ok
  · simp only [msS, List.mem_cons, List.not_mem_nil, or_false] at hm
    subst hm; exact mS_ok
  · unfold bkS
    rw [List.getElem?_append_left (List.getElem?_eq_some_iff.1 hv).1]
    exact hv
end Go.Proofs.YtoaidbhiciaeaaaGreat

end
