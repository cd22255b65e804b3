/- Walks and plain facts that the claim rests on (CtlVotesW, MetP, CtlRVotes, MetW, GrpP). No condition. -/
import Derived.Test.YtoaidbhiciaeaaaGreatOr12
import Derived.Deep.MidRow
import Derived.StillTailTactics
import Derived.Test.YtoaidbhiciaeaaaGreatOr04
import Derived.Test.YtoaidbhiciaeaaaGreatOr10
import Derived.Test.YtoaidbhiciaeaaaGreatOr11
import Derived.StringKeys
section
namespace Go.Proofs.YtoaidbhiciaeaaaGreat
open Go.RowKit Go.Shelf
attribute [local go_sem] Oper.semAt_some
set_option linter.unusedSimpArgs false
set_option linter.unusedVariables false
def orS (xs : List (Nat × Nat)) : Nat := xs.foldl (fun a x => (a ||| x.2) % 65536) 0
theorem orS_snoc (xs : List (Nat × Nat)) (x : Nat × Nat) : orS (xs ++ [x]) = (orS xs ||| x.2) % 65536 := by simp [orS, List.foldl_append]
theorem orS_steps (f : Nat → Nat → Int) (n : Nat) (hn : n ≤ 12) : ∀ k, orS (stepsL f n (k + 1)) = encB (inA f n k) n := by
  intro k
  induction k with
  | zero =>
    rw [stepsL_snoc, orS_snoc]
    have h1 := encB_lt12 (inA f n 0) hn
    have e : orS (stepsL f n 0) = 0 := rfl
    rw [e, Nat.zero_or]
    exact Nat.mod_eq_of_lt (by show encB (inA f n 0) n < _; omega)
  | succ k ih =>
    rw [stepsL_snoc, orS_snoc, ih, encB_or, encB_next]
    have h1 := encB_lt12 (inA f n (k + 1)) hn
    exact Nat.mod_eq_of_lt (by omega)
theorem or16_any (a b : Nat) : bits .or .u16 (a : Int) (b : Int) = (((a ||| b) % 65536 : Nat) : Int) := by
  have h1 : (BitVec.ofInt 16 (a : Int)).toNat = a % 2 ^ 16 := by rw [BitVec.ofInt_natCast, BitVec.toNat_ofNat]
  have h2 : (BitVec.ofInt 16 (b : Int)).toNat = b % 2 ^ 16 := by rw [BitVec.ofInt_natCast, BitVec.toNat_ofNat]
  show IntKind.u16.wrap ((BitVec.ofInt 16 (a : Int) ||| BitVec.ofInt 16 (b : Int)).toNat : Int) = _
  rw [BitVec.toNat_or, h1, h2, ← Nat.or_mod_two_pow, IntKind.wrap_u16]
  omega
theorem upv_step {V : Nat → Int} {k : Nat} {v : Int} (h : V k = v) (i : Nat) : updI (fun e => if e < k then V e else 0) k v i = if i < k + 1 then V i else 0 := by
  simp only [updI]
  by_cases h1 : i = k
  · subst h1; rw [if_pos rfl, if_pos (Nat.lt_succ_self _), h]
  · rw [if_neg h1]
    by_cases h2 : i < k
    · rw [if_pos h2, if_pos (by omega)]
    · rw [if_neg h2, if_neg (by omega)]
def votesR (n : Int) (l : List Hol) (day : Int) : List Int × Int := if (matR n l day).2 = 0 then (fnI (fun e => voteK (f0 l day) (inA (f0 l day) n.toNat n.toNat) e n.toNat) n.toNat, 0) else ([], (matR n l day).2)
set_option maxRecDepth 100000 in
set_option maxHeartbeats 4000000 in
theorem votes_in (n : Int) (l : List Hol) (day : Int) (ao : Option Addr) (cap b o : Nat) (w : World) (H : Hols w ao l cap b o) (hlen : l.length ≤ 900) (hok : ∀ x ∈ l, x.Ok) :
    CallsIn Fence.wide 5 Tryz.prog 192 #[.int .i64 n, .slice ao l.length cap, .int .i64 day] w fun e w' => ∃ ao cap b o, e = .returned (.tuple #[.slice ao (votesR n l day).1.length cap, .int .i64 (votesR n l day).2]) ∧ Sl w' 1 ao (votesR n l day).1.length cap b o ((votesR n l day).1.map (.int .i64)) ∧ Keeps w w' := by
  have HM0 := matrix_any n ao l cap b o day w H hlen hok
  by_cases hv : hvalidB n l = true ∧ dateB day = true
  · obtain ⟨hv, hd⟩ := hv
    obtain ⟨hn1, hn2⟩ := hvalidB_n hv
    obtain ⟨m, rfl⟩ : ∃ m : Nat, n = (m : Int) := ⟨n.toNat, by omega⟩
    have hm1 : 1 ≤ m := by omega
    have hm : m ≤ 12 := by omega
    have hq : votesR (m : Int) l day = (fnI (fun e => voteK (f0 l day) (inA (f0 l day) m m) e m) m, 0) := by unfold votesR; rw [matR_3 hv hd]; simp
    have hfb := f0_bd hv day
    unfold OutRows at HM0
    rw [matR_3 hv hd, Int.toNat_natCast] at HM0
    simp only [matH_len] at HM0
    rw [hq]
    simp only [fnI_len]
    have HM := Lib.hid HM0
    have HFB := Lib.hid hfb
    obtain ⟨i0, hi, hz0, hz1, hz2⟩ := info_parts infoIntC
    have hg1 : Fence.wide.fn 194 := trivial
    have hg2 : Fence.wide.fn 195 := trivial
    have hg3 : Fence.wide.fn 196 := trivial
    clear HM0 hv hd hn1 hn2 hq hfb H hok
    refine callsIn_of_wp_marks Tryz.func192 rfl trivial ?_ rfl
    simp only [Tryz.ntmps192, List.size_toArray, List.length_cons, List.length_nil, Nat.reduceAdd, Nat.reduceSub, Array.replicate_succ, Array.replicate_zero, List.push_toArray, List.append_toArray, List.nil_append, List.cons_append]
    gi_wp2_with (first | (gi_at_call 194; refine (callsIn_wide.2 HM.out).mono ?_; rintro e1 w1 ⟨ao1, cap1, b1, o1, rfl, hs1, hk1⟩; have HS1 := Lib.hid hs1; have K1 := Lib.hid hk1; clear hs1 hk1) | (gi_at_call 195; refine (steps_in Fence.wide _ trivial rfl _ _ _ _).mono ?_; rintro en w' ⟨rfl, rfl⟩))
    have hbox0 := (Boxed.new w1 243 (.int .u16 0)).alloc (.cells #[.slice ao1 m cap1] 239)
    have hbel0 : Below w1.heap.size w1 ((w1.alloc (Obj.cells #[Value.int IntKind.u16 0] 243)).alloc (Obj.cells #[Value.slice ao1 m cap1] 239)) := ((Below.refl _ w1).alloc (Nat.le_refl _) _).alloc (by simp) _
    refine wpIn_rangeFunc_ownH rfl (by omega) (gf := 198) (lb := #[.pointer (some ⟨w1.heap.size + 1, 0, none⟩)]) rfl trivial (enters_of Tryz.func198 (by kernel_rfl) rfl)
      (steps_stops 4 (by omega) (w1.heap.size + 1) w1.heap.size (w1.heap.size + 1) ao1 (f0 l day) m cap1 b1 o1 hm1 hm HFB.out w1 HS1.out ((w1.alloc (Obj.cells #[Value.int IntKind.u16 0] 243)).alloc (Obj.cells #[Value.slice ao1 m cap1] 239)) (by simp) (by omega) (Nat.le_refl _) (by simp; omega) hbel0 (by go_simp))
      (fun h k => h.trans k) (fun W l o o' hl _ _ _ => KeepBut.putObj W l o' hl) (Below.refl _ _) (fun _ => rfl)
      (fun pre W => Boxed W w1.heap.size 243 (.int .u16 (orS pre : Nat)) ∧ (Below w1.heap.size w1 W ∧ ((w1.alloc (Obj.cells #[Value.int IntKind.u16 0] 243)).alloc (Obj.cells #[Value.slice ao1 m cap1] 239)).heap.size ≤ W.heap.size))
      (fun _ _ _ => False)
      (OwnFrom.and (Own.from (boxed_own _ _ (fun pre => Value.int .u16 (orS pre : Nat))) _) (OwnFrom.and (ownFrom_below (Nat.le_refl _) (by simp; omega)) (fun s X Y row hs hg hr => Nat.le_trans hs hg.size)))
      (fun _ _ _ _ _ hs _ _ => hs)
      ⟨hbox0, ⟨hbel0, Nat.le_refl _⟩⟩
      (fun x a' W => a' = { tmps := #[.int .i64 (m : Int), .slice ao l.length cap, .int .i64 day, undef, undef, undef, .slice none 0 0, .int .i64 0, .slice ao1 m cap1, .int .i64 0, .pointer (some ⟨w1.heap.size, 0, none⟩), undef, .int .u16 (x.2 : Nat), undef, undef, .tuple #[.slice ao1 m cap1, .int .i64 0], .int .i64 (m : Int), .slice ao l.length cap, .int .i64 day, .tuple #[.slice ao1 m cap1, .int .i64 0], .slice ao1 m cap1, .int .i64 0, .int .i64 0, .bool false, undef, .slice ao1 m cap1, .func (.func 198) #[] #[.pointer (some ⟨w1.heap.size + 1, 0, none⟩)], .int .i64 (x.1 : Nat), .int .u16 (x.2 : Nat), undef, undef, undef, undef, undef, undef, undef, undef, undef, undef, undef, undef, undef, undef, undef, undef, undef, undef, undef], defers := [] })
      (fun x a' _ X Y row hs hg hr => hs)
      ?assign ?body ?done ?stop
    case assign =>
      rintro lb pre x W K hI hK
      gi_wp2
      exact hK _ _ (KeepsFrom.refl _ _) (KeepBut.refl _ _ _ _) hI rfl
    case body =>
      rintro lb pre x a' W hlb ⟨r, hr⟩ ⟨hbox, ⟨hbel, hsz⟩⟩ rfl hlt
      have c10 := hbox.cell
      have f10 := hbox.frozen
      have hor := or16_any (orS pre) x.2
      have HI := Lib.hid (And.intro hbox (And.intro hbel hsz))
      clear hr hbox hbel hsz
      gi_wp2
      exact ⟨(KeepsOthers.setCell _ _ _).from _, (KeepBut.refl _ _ _ _).setCell (p := ⟨w1.heap.size, 0, none⟩) (Nat.le_refl _) (by show w1.heap.size < _; omega) _, by rw [orS_snoc]; exact HI.out.1.set _, HI.out.2.1.setCell (Nat.le_refl _) _, by simpa [World.setCell] using HI.out.2.2⟩
    case done =>
      rintro D xs W hD ⟨q, rfl, hq1, hq2, hq3⟩ ⟨hbox, ⟨hbel, hsz⟩⟩ hK
      obtain ⟨p, rfl⟩ : ∃ p, q = p + 1 := ⟨q - 1, by omega⟩
      have hen := ends hm1 hq2 hq1 hq3
      have c10 := hbox.cell
      have b10 := hbox.lt
      rw [orS_steps _ _ hm, ← Nat.add_sub_cancel (n := p) (m := 1), ← hen.2] at c10
      have HB := Lib.hid hbel
      have HK := Lib.hid hK
      have HRD := Lib.hid (HS1.out.keeps (show Keeps w1 W from hbel))
      have hDW := (Array.getElem?_eq_some_iff.1 hK).1
      have hbs := hbel.size
      clear hen hq2 hq3 hbel hbox hK hsz
      gi_wp2_with (gi_at_make; refine wpListIn_makeZ _ rfl _ _ 69 rfl 3 i0 (.int .i64 0) Tryz.underlying69 hi hz0 hz1 rfl _ _ _ _ m rfl rfl rfl rfl (by rw [hz2]; omega) (by omega) ?_)
      have HR0 : Hid (RowB (W.alloc (Obj.cells (Array.replicate m (Value.int IntKind.i64 0)) 3)) W.heap.size 3 (rowI (fun _ => 0) m)) := Lib.hid (by
        rw [← rowI_zero]
        have := RowB.new W 3 (List.replicate m (.int .i64 0))
        simpa using this)
      gi_loopw [36] (fun vi wy => ∃ k : Nat, k ≤ m ∧ vi = .int .i64 k ∧ Hid (RowB wy W.heap.size 3 (rowI (fun e => if e < k then voteK (f0 l day) (inA (f0 l day) m m) e m else 0) m)) ∧ Hid (Keeps W wy)) (fun vi _ => m - (intOf vi).toNat)
      case atStart => exact ⟨0, Nat.zero_le _, rfl, Lib.hid (by simpa using HR0.out), Lib.hid ((Keeps.refl W).alloc _)⟩
      case round =>
        obtain ⟨k, hk, rfl, HX, HKY⟩ := hrel
        by_cases hlt : k < m
        · obtain ⟨v, hv⟩ : ∃ v, voteK (f0 l day) (inA (f0 l day) m m) k m = v := ⟨_, rfl⟩
          have hV : CallsIn Fence.wide 4 Tryz.prog 196 #[.slice ao1 m cap1, .int .u16 (encB (inA (f0 l day) m m) m : Nat), .int .i64 (k : Int)] wr fun en w' => en = .returned (.int .i64 v) ∧ w' = wr := by
            rw [← hv]
            exact callsIn_wide.2 (votes_any (f0 l day) m hm HFB.out (inA (f0 l day) m m) k hlt ao1 cap1 b1 o1 wr (HRD.out.keeps HKY.out))
          have HVJ := Lib.hid hV
          have HVV := Lib.hid hv
          have c12 := HKY.out.cell c10
          have b12 := World.block_lt_of_cell? _ _ c12
          have c0 := HX.out.cell k _ (rowI_get _ _ _ hlt)
          have f0' := HX.out.frozen k
          have hb0 := HX.out.lt
          clear hV hv
          gi_wp2_with (gi_at_call 196; refine HVJ.out.mono ?_; rintro en w4 ⟨rfl, rfl⟩)
          go_roundw
          case rel => exact ⟨k + 1, by omega, by go_num, Lib.hid (by
            have := HX.out.set k (.int .i64 v)
            rw [rowI_set, rowI_congr (fun i _ => upv_step (V := fun e => voteK (f0 l day) (inA (f0 l day) m m) e m) HVV.out i)] at this
            exact this), Lib.hid (HKY.out.setCell (p := ⟨W.heap.size, k, none⟩) (Nat.le_refl _) _)⟩
          case measure => simp [intOf]; omega
        · obtain rfl : k = m := by omega
          have HZ : Hid (RowB wr W.heap.size 3 (rowI (fun e => voteK (f0 l day) (inA (f0 l day) k k) e k) k)) := Lib.hid (by
            rw [rowI_congr (fun i hi => show voteK (f0 l day) (inA (f0 l day) k k) i k = if i < k then voteK (f0 l day) (inA (f0 l day) k k) i k else 0 by rw [if_pos hi])]
            exact HX.out)
          have HKD := Lib.hid ((HKY.out.block D hDW).trans HK.out)
          gi_wp2
          refine ⟨by simp, .inl ⟨_, _, rfl, run_takeDeferred HKD.out, ?_⟩⟩
          have hD' : w1.heap.size + 1 + 1 ≤ D := by simpa using hD
          exact ⟨_, results_tmp2 rfl _ _ _, _, _, _, _, rfl, (HZ.out.putObj D _ (by omega)).slI (by omega), K1.out.trans (show Keeps w1 _ from (Below.trans HB.out (HKY.out.mono hbs)).trans (belowK_b (w := w1) (Nat.le_refl _) wr D _ _ (by omega) HKD.out rfl rfl))⟩
    case stop =>
      rintro D c pre W _ _ h _
      exact h.elim
  · obtain ⟨re, hr, h0⟩ : ∃ re, matR n l day = ([], re) ∧ re ≠ 0 := by
      cases h1 : hvalidB n l with
      | false => exact ⟨1, matR_1 h1, by decide⟩
      | true =>
        cases h2 : dateB day with
        | false => exact ⟨2, matR_2 h1 h2, by decide⟩
        | true => exact absurd ⟨h1, h2⟩ hv
    have hq : votesR n l day = ([], re) := by unfold votesR; rw [hr, if_neg h0]
    unfold OutRows at HM0
    rw [hr] at HM0
    rw [hq]
    have HM := Lib.hid HM0
    have e2 : (re != 0) = true := by simpa using h0
    have hg1 : Fence.wide.fn 194 := trivial
    clear HM0 hv hr hq H hok
    refine callsIn_of_wp_marks Tryz.func192 rfl trivial ?_ rfl
    simp only [Tryz.ntmps192, List.size_toArray, List.length_cons, List.length_nil, Nat.reduceAdd, Nat.reduceSub, Array.replicate_succ, Array.replicate_zero, List.push_toArray, List.append_toArray, List.nil_append, List.cons_append]
    gi_wp2_with (gi_at_call 194; refine (callsIn_wide.2 HM.out).mono ?_; rintro e1 w1 ⟨ao1, cap1, b1, o1, rfl, hs1, hk1⟩; have HS1 := Lib.hid hs1; have K1 := Lib.hid hk1; clear hs1 hk1)
    exact ⟨_, results_tmp2 rfl _ _ _, none, 0, 0, 0, rfl, Sl.nil _ _, K1.out⟩
end Go.Proofs.YtoaidbhiciaeaaaGreat

end
section
namespace Go.Proofs.YtoaidbhiciaeaaaGreat
open Go.RowKit
set_option linter.unusedSimpArgs false
set_option linter.unusedVariables false
def mthE (f : Nat → Nat → Int) (js : List Bool) (e : Nat) : Int :=
  if inA f js.length js.length e = true then 3 else if voteK f (inA f js.length js.length) e js.length < 2000 then 0 else if js.getD e false = true then 2 else 1
theorem mthE_full {f : Nat → Nat → Int} {js : List Bool} {e : Nat} (h : inA f js.length js.length e = true) : mthE f js e = 3 := by unfold mthE; rw [if_pos h]
theorem mthE_none {f : Nat → Nat → Int} {js : List Bool} {e : Nat} (h : inA f js.length js.length e = false) (h2 : voteK f (inA f js.length js.length) e js.length < 2000) : mthE f js e = 0 := by unfold mthE; rw [if_neg (by simp [h]), if_pos h2]
theorem mthE_joint {f : Nat → Nat → Int} {js : List Bool} {e : Nat} (h : inA f js.length js.length e = false) (h2 : ¬ voteK f (inA f js.length js.length) e js.length < 2000) (h3 : js.getD e false = true) : mthE f js e = 2 := by unfold mthE; rw [if_neg (by simp [h]), if_neg h2, if_pos h3]
theorem mthE_equity {f : Nat → Nat → Int} {js : List Bool} {e : Nat} (h : inA f js.length js.length e = false) (h2 : ¬ voteK f (inA f js.length js.length) e js.length < 2000) (h3 : js.getD e false = false) : mthE f js e = 1 := by unfold mthE; rw [if_neg (by simp [h]), if_neg h2, if_neg (by rw [h3]; exact Bool.false_ne_true)]
def methR (js : List Bool) (l : List Hol) (day : Int) : List Int × Int := if (matR (js.length : Int) l day).2 = 0 then (fnI (mthE (f0 l day) js) js.length, 0) else ([], (matR (js.length : Int) l day).2)
def matR' (js : List Bool) (l : List Hol) (entity day : Int) : Int × Int := if (methR js l day).2 = 0 then (if 0 ≤ entity ∧ entity < (js.length : Int) then (mthE (f0 l day) js entity.toNat, 0) else (0, 2)) else (0, (methR js l day).2)
theorem meth_cases (js : List Bool) (l : List Hol) (day : Int) : (1 ≤ js.length ∧ js.length ≤ 12 ∧ hvalidB (js.length : Int) l = true ∧ dateB day = true ∧ ctlR (js.length : Int) l day = (fnB (inA (f0 l day) js.length js.length) js.length, 0) ∧ votesR (js.length : Int) l day = (fnI (fun e => voteK (f0 l day) (inA (f0 l day) js.length js.length) e js.length) js.length, 0) ∧ methR js l day = (fnI (mthE (f0 l day) js) js.length, 0)) ∨
    (∃ re, re ≠ 0 ∧ ctlR (js.length : Int) l day = ([], re) ∧ votesR (js.length : Int) l day = ([], re) ∧ methR js l day = ([], re)) := by
  cases h1 : hvalidB (js.length : Int) l with
  | false =>
    right
    have h := matR_1 (day := day) h1
    exact ⟨1, by decide, by unfold ctlR; rw [h]; simp, by unfold votesR; rw [h]; simp, by unfold methR; rw [h]; simp⟩
  | true =>
    cases h2 : dateB day with
    | false =>
      right
      have h := matR_2 h1 h2
      exact ⟨2, by decide, by unfold ctlR; rw [h]; simp, by unfold votesR; rw [h]; simp, by unfold methR; rw [h]; simp⟩
    | true =>
      left
      obtain ⟨hn1, hn2⟩ := hvalidB_n h1
      have h := matR_3 h1 h2
      rw [Int.toNat_natCast, matH_f0] at h
      exact ⟨by omega, by omega, rfl, rfl, by unfold ctlR; rw [h]; simp, by unfold votesR; rw [h]; simp, by unfold methR; rw [h]; simp⟩
theorem fnB_cell {w : World} {ao : Option Addr} {φ : Nat → Bool} {n cap b o : Nat} (H : Sl w 1 ao n cap b o ((fnB φ n).map .bool)) (k : Nat) (hk : k < n) : w.cell? ⟨b, o + k, none⟩ = some (.bool (φ k)) :=
  H.cell k _ (by simp [fnB, hk])
theorem RowB.range {W : World} {B : Nat} {t : TypeId} {vs : List Value} (h : RowB W B t vs) : W.rangeAt B 0 vs := fun j v hv => by rw [Nat.zero_add]; exact h.cell j v hv
theorem groupSize : (Tryz.prog.info? 29).map (·.size) = some 21 := by kernel_rfl
structure Gc where
  c0 : Value
  c1 : Value
  c2 : Value
  c3 : Value
  c4 : Value
  c5 : Value
  c6 : Value
  c7 : Value
  c8 : Value
  c9 : Value
  c10 : Value
  c11 : Value
  c12 : Value
  c13 : Value
  c14 : Value
  c15 : Value
  c16 : Value
  c17 : Value
  c18 : Value
  c19 : Value
def grpC (G : Gc) (v : Value) : List Value := [G.c0, G.c1, G.c2, G.c3, G.c4, G.c5, G.c6, G.c7, G.c8, G.c9, G.c10, G.c11, G.c12, G.c13, G.c14, G.c15, G.c16, G.c17, G.c18, G.c19, v]
end Go.Proofs.YtoaidbhiciaeaaaGreat

end
section
namespace Go.Proofs.YtoaidbhiciaeaaaGreat
open Go.RowKit
set_option linter.unusedSimpArgs false
set_option linter.unusedVariables false
theorem RkW.drew {w W : World} {n : Nat} {φ : Nat → Int} (h : RkW w W n φ) : RkW w W.drew n φ := ⟨h.1, h.2.drew⟩
end Go.Proofs.YtoaidbhiciaeaaaGreat

end
section
namespace Go.Proofs.YtoaidbhiciaeaaaGreat
open Go.RowKit
set_option linter.unusedSimpArgs false
set_option linter.unusedVariables false
def Ents (w : World) (ao : Option Addr) (js : List Bool) (cap b o : Nat) : Prop := ∃ cs, Sl w 5 ao js.length cap b o cs ∧ ∀ k (h : k < js.length), cs[k * 5 + 4]? = some (.bool js[k])
section
variable {w w' : World} {ao : Option Addr} {js : List Bool} {cap b o : Nat}
theorem Ents.keeps (h : Ents w ao js cap b o) (k : Keeps w w') : Ents w' ao js cap b o := by obtain ⟨cs, h1, h2⟩ := h; exact ⟨cs, h1.keeps k, h2⟩
theorem Ents.capE (h : Ents w ao js cap b o) : cap ≤ 9223372036854775807 := by obtain ⟨cs, h1, _⟩ := h; exact h1.cap
theorem Ents.leE (h : Ents w ao js cap b o) : js.length ≤ cap := by obtain ⟨cs, h1, _⟩ := h; exact h1.le
theorem Ents.joint (h : Ents w ao js cap b o) (k : Nat) (hk : k < js.length) : w.cell? ⟨b, o + k * 5 + 4, none⟩ = some (.bool js[k]) := by obtain ⟨cs, h1, h2⟩ := h; rw [Nat.add_assoc]; exact h1.cell _ _ (h2 k hk)
theorem Ents.atE (h : Ents w ao js cap b o) (k : Nat) (hk : k < js.length) : ∀ w', (Instr.indexAt 27 (.slice ao js.length cap) (.int .i64 (k : Int))).run Tryz.prog w' = .ok (.pointer (some ⟨b, o + k * 5, none⟩)) w' := by obtain ⟨cs, h1, _⟩ := h; exact Sl.at h1 Tryz.underlying27 Tryz.sizeOf106 k hk
end
def upM (V : Nat → Int) (k : Nat) : Nat → Int := fun e => if e < k then V e else 0
theorem upM_step (V : Nat → Int) (k : Nat) (v : Int) (h : V k = v) (i : Nat) : updI (upM V k) k v i = upM V (k + 1) i := upv_step h i
theorem ctl_any (n : Int) (l : List Hol) (day : Int) (ao : Option Addr) (cap b o : Nat) (w : World) (H : Hols w ao l cap b o) (hlen : l.length ≤ 900) (hok : ∀ x ∈ l, x.Ok) :
    Calls Tryz.prog 192 #[.int .i64 n, .slice ao l.length cap, .int .i64 day] w (OutL w (votesR n l day).1 (votesR n l day).2) := callsIn_wide.1 (votes_in n l day ao cap b o w H hlen hok)
set_option maxRecDepth 100000 in
set_option maxHeartbeats 4000000 in
theorem all_any (G : Gc) (js : List Bool) (l : List Hol) (day : Int) (ao : Option Addr) (cap b o : Nat) (aol : Option Addr) (capl bl ol : Nat) (w : World) (HJ : Ents w ao js cap b o) (H : Hols w aol l capl bl ol) (hlen : l.length ≤ 900) (hok : ∀ x ∈ l, x.Ok) :
    Calls Tryz.prog 186 #[.agg #[G.c0, G.c1, G.c2, G.c3, G.c4, G.c5, G.c6, G.c7, G.c8, G.c9, G.c10, G.c11, G.c12, G.c13, G.c14, G.c15, G.c16, G.c17, G.c18, G.c19, .slice ao js.length cap], .slice aol l.length capl, .int .i64 day] w (OutL w (methR js l day).1 (methR js l day).2) := by
  have hcap := HJ.capE
  have hle := HJ.leE
  have HHJ := Lib.hid HJ
  have hc1 : ∀ W, Keeps w W → Calls Tryz.prog 191 #[.int .i64 (js.length : Int), .slice aol l.length capl, .int .i64 day] W (OutBl W (ctlR (js.length : Int) l day).1 (ctlR (js.length : Int) l day).2) := fun W hk => controlled_any _ l day aol capl bl ol W (H.keeps hk) hlen hok
  have hc2 : ∀ W, Keeps w W → Calls Tryz.prog 192 #[.int .i64 (js.length : Int), .slice aol l.length capl, .int .i64 day] W (OutL W (votesR (js.length : Int) l day).1 (votesR (js.length : Int) l day).2) := fun W hk => ctl_any _ l day aol capl bl ol W (H.keeps hk) hlen hok
  rcases meth_cases js l day with ⟨hm1, hm, hv, hd, hq1, hq2, hq3⟩ | ⟨re, h0, hq1, hq2, hq3⟩
  · unfold OutBl at hc1
    unfold OutL at hc2
    rw [hq1] at hc1
    rw [hq2] at hc2
    rw [hq3]
    simp only [fnB_len] at hc1
    simp only [fnI_len] at hc2
    have HC1 := Lib.hid hc1
    have HC2 := Lib.hid hc2
    obtain ⟨i0, hi, hz0, hz1, hz2⟩ := info_parts infoIntC
    clear hc1 hc2 hq1 hq2 hq3 HJ H hok hv hd
    go_enter Tryz.func186, Tryz.ntmps186
    go_wp2_with (first | (go_at_call 192; (refine (HC2.out _ (((Keeps.refl w).alloc _).trans K2.out)).mono ?_); rintro e w3 ⟨ao3, cap3, b3, o3, rfl, hs3, hk3⟩; have HS3 := Lib.hid hs3; have HS23 := Lib.hid (HS2.out.keeps hk3); have K3 := Lib.hid (K2.out.trans hk3); have hc3 := hs3.cap; have hl3 := hs3.le; clear hs3 hk3 g0 hbg; have g0 := K3.out.cell (p := ⟨w.heap.size, 20, none⟩) (v := .slice ao js.length cap) (by go_simp); have hbg := World.block_lt_of_cell? _ _ g0) | (go_at_call 191; (refine (HC1.out _ ((Keeps.refl w).alloc _)).mono ?_); rintro e w2 ⟨ao2, cap2, b2, o2, rfl, hs2, hk2⟩; have HS2 := Lib.hid hs2; have K2 := Lib.hid hk2; have hc2 := hs2.cap; have hl2 := hs2.le; have g0 := hk2.cell (p := ⟨w.heap.size, 20, none⟩) (v := .slice ao js.length cap) (by go_simp); have hbg := World.block_lt_of_cell? _ _ g0; clear hs2 hk2) | (at_make; refine wpList_makeZ _ rfl _ _ 69 rfl 3 i0 (.int .i64 0) Tryz.underlying69 hi hz0 hz1 rfl _ _ _ _ js.length rfl rfl rfl rfl (by rw [hz2]; omega) (by omega) ?_))
    have HR0 : Hid (RkW w3 (w3.alloc (Obj.cells (Array.replicate js.length (Value.int IntKind.i64 0)) 3)) js.length (fun _ => 0)) := Lib.hid ⟨by
      rw [← rowI_zero]
      have := RowB.new w3 3 (List.replicate js.length (.int .i64 0))
      simpa using this, (Keeps.refl w3).alloc _⟩
    go_loopw [41] (fun vi wy => ∃ k : Nat, k ≤ js.length ∧ vi = .int .i64 k ∧ Hid (RkW w3 wy js.length (upM (mthE (f0 l day) js) k))) (fun vi _ => js.length - (intOf vi).toNat)
    case atStart => exact ⟨0, Nat.zero_le _, rfl, Lib.hid (HR0.out.congr fun i _ => by unfold upM; rw [if_neg (Nat.not_lt_zero _)])⟩
    case round =>
      obtain ⟨k, hk, rfl, HX⟩ := hrel
      by_cases hlt : k < js.length
      · have c1 := fnB_cell (HS23.out.keeps HX.out.2) k hlt
        have hix1 := (HS23.out.at1 Tryz.underlying234 Tryz.sizeOf4 k hlt)
        have c2 := fnI_cell (HS3.out.keeps HX.out.2) k hlt
        have hix2 := (HS3.out.at1 Tryz.underlying69 Tryz.sizeOf3 k hlt)
        have hj := HHJ.out.keeps ((((Keeps.refl w).alloc _).trans K3.out).trans HX.out.2)
        have c3 := hj.joint k hlt
        have hix3 := hj.atE k hlt
        have g1 := HX.out.2.cell g0
        have hbg1 := World.block_lt_of_cell? _ _ g1
        have c0 := HX.out.1.cell k _ (rowI_get _ _ _ hlt)
        have f0' := HX.out.1.frozen k
        have hb0 := HX.out.1.lt
        have hgd : js.getD k false = js[k] := by simp [List.getD, hlt]
        clear hj
        cases hin : inA (f0 l day) js.length js.length k with
        | true =>
          have HM := Lib.hid (mthE_full hin)
          rw [hin] at c1
          clear hin hgd
          go_wp2_with fail
          go_roundw
          case rel => exact ⟨k + 1, by omega, by go_num, Lib.hid ((HX.out.set k 3).congr fun i _ => upM_step _ k 3 HM.out i)⟩
          case measure => simp [intOf]; omega
        | false =>
          rw [hin] at c1
          obtain ⟨v, hv⟩ : ∃ v, voteK (f0 l day) (inA (f0 l day) js.length js.length) k js.length = v := ⟨_, rfl⟩
          by_cases hv2 : v < 2000
          · have HM := Lib.hid (mthE_none hin (by rw [hv]; exact hv2))
            rw [hv] at c2
            have hv3 : decide (v < 2000) = true := decide_eq_true hv2
            clear hin hgd hv
            go_wp2_with fail
            go_roundw
            case rel => exact ⟨k + 1, by omega, by go_num, Lib.hid ((HX.out.set k 0).congr fun i _ => upM_step _ k 0 HM.out i)⟩
            case measure => simp [intOf]; omega
          · have hv3 : decide (v < 2000) = false := decide_eq_false hv2
            cases hjk : js[k] with
            | true =>
              have HM := Lib.hid (mthE_joint hin (by rw [hv]; exact hv2) (hgd.trans hjk))
              rw [hv] at c2
              rw [hjk] at c3
              clear hin hgd hv hjk
              go_wp2_with fail
              go_roundw
              case rel => exact ⟨k + 1, by omega, by go_num, Lib.hid ((HX.out.set k 2).congr fun i _ => upM_step _ k 2 HM.out i)⟩
              case measure => simp [intOf]; omega
            | false =>
              have HM := Lib.hid (mthE_equity hin (by rw [hv]; exact hv2) (hgd.trans hjk))
              rw [hv] at c2
              rw [hjk] at c3
              clear hin hgd hv hjk
              go_wp2_with fail
              go_roundw
              case rel => exact ⟨k + 1, by omega, by go_num, Lib.hid ((HX.out.set k 1).congr fun i _ => upM_step _ k 1 HM.out i)⟩
              case measure => simp [intOf]; omega
      · obtain rfl : k = js.length := by omega
        have HZ := Lib.hid (HX.out.congr (ψ := mthE (f0 l day) js) fun i hi => by unfold upM; rw [if_pos hi])
        go_wp2_with fail
        go_ret2
        refine ⟨some ⟨w3.heap.size, 0, none⟩, js.length, w3.heap.size, 0, by simp only [fnI_len]; rfl, ?_, ((Keeps.refl w).alloc _).trans (K3.out.trans HZ.out.2)⟩
        simp only [fnI_len]
        exact HZ.out.1.slI (by omega)
  · unfold OutBl at hc1
    rw [hq1] at hc1
    rw [hq3]
    have HC1 := Lib.hid hc1
    have e2 : (!(re == 0)) = true := by simpa using h0
    clear hc1 hc2 hq1 hq2 hq3 HJ H hok
    go_enter Tryz.func186, Tryz.ntmps186
    go_wp2_with (go_at_call 191; (refine (HC1.out _ ((Keeps.refl w).alloc _)).mono ?_); rintro e w2 ⟨ao2, cap2, b2, o2, rfl, hs2, hk2⟩; have HS2 := Lib.hid hs2; have K2 := Lib.hid hk2; have hc2 := hs2.cap; have hl2 := hs2.le; have g0 := hk2.cell (p := ⟨w.heap.size, 20, none⟩) (v := .slice ao js.length cap) (by go_simp); have hbg := World.block_lt_of_cell? _ _ g0; clear hs2 hk2)
    go_ret2
    exact ⟨none, 0, 0, 0, rfl, Sl.nil _ _, ((Keeps.refl w).alloc _).trans K2.out⟩
set_option maxRecDepth 100000 in
set_option maxHeartbeats 4000000 in
theorem met_any (G : Gc) (js : List Bool) (l : List Hol) (en day : Int) (ao : Option Addr) (cap b o : Nat) (aol : Option Addr) (capl bl ol : Nat) (w : World) (HJ : Ents w ao js cap b o) (H : Hols w aol l capl bl ol) (hlen : l.length ≤ 900) (hok : ∀ x ∈ l, x.Ok) :
    Calls Tryz.prog 178 #[.agg #[G.c0, G.c1, G.c2, G.c3, G.c4, G.c5, G.c6, G.c7, G.c8, G.c9, G.c10, G.c11, G.c12, G.c13, G.c14, G.c15, G.c16, G.c17, G.c18, G.c19, .slice ao js.length cap], .slice aol l.length capl, .int .i64 en, .int .i64 day] w fun e w' => e = .returned (.tuple #[.int .i64 (matR' js l en day).1, .int .i64 (matR' js l en day).2]) ∧ Keeps w w' := by
  have hall := fun W (hk : Keeps w W) => all_any G js l day ao cap b o aol capl bl ol W (HJ.keeps hk) (H.keeps hk) hlen hok
  have hcap := HJ.capE
  have hle := HJ.leE
  have hload := (RowB.new w 29 (grpC G (.slice ao js.length cap))).range
  obtain ⟨⟨rl, re⟩, hr⟩ : ∃ r, methR js l day = r := ⟨_, rfl⟩
  have hall0 := hall
  rw [hr] at hall
  have HALL : Hid (∀ W, Keeps w W → Calls Tryz.prog 186 #[.agg #[G.c0, G.c1, G.c2, G.c3, G.c4, G.c5, G.c6, G.c7, G.c8, G.c9, G.c10, G.c11, G.c12, G.c13, G.c14, G.c15, G.c16, G.c17, G.c18, G.c19, .slice ao js.length cap], .slice aol l.length capl, .int .i64 day] W fun e w' => ∃ ao cap b o, e = .returned (.tuple #[.slice ao rl.length cap, .int .i64 re]) ∧ Sl w' 1 ao rl.length cap b o (rl.map (.int .i64)) ∧ Keeps W w') := Lib.hid hall
  clear hall hall0
  by_cases h0 : re = 0
  · subst h0
    have hrl : rl = fnI (mthE (f0 l day) js) js.length := by
      rcases meth_cases js l day with ⟨_, _, _, _, _, _, hq⟩ | ⟨re, h1, _, _, hq⟩
      · rw [hq] at hr; simpa using hr.symm
      · rw [hq] at hr; simp at hr; exact absurd hr.2 h1
    subst hrl
    simp only [fnI_len] at HALL
    by_cases he : 0 ≤ en ∧ en < (js.length : Int)
    · have HQ : Hid (matR' js l en day = (mthE (f0 l day) js en.toNat, 0)) := Lib.hid (by unfold matR'; rw [hr, if_pos rfl, if_pos he])
      obtain ⟨k, rfl⟩ : ∃ k : Nat, en = (k : Int) := ⟨en.toNat, by omega⟩
      have hkl : k < js.length := by omega
      have e1 : decide ((k : Int) < 0) = false := decide_eq_false (by omega)
      have e2 : decide ((js.length : Int) ≤ (k : Int)) = false := decide_eq_false (by omega)
      clear hr HJ H he
      go_enter Tryz.func178, Tryz.ntmps178
      go_wp2_with (first | (refine wpList_load_mid rfl 29 _ rfl w.heap.size 0 rfl (grpC G (.slice ao js.length cap)) _ hload Tryz.underlying29 rfl groupSize ?_) | (go_at_call 186; (refine (HALL.out _ ((Keeps.refl w).alloc _)).mono ?_); rintro e w2 ⟨ao2, cap2, b2, o2, rfl, hs2, hk2⟩; have c0 := fnI_cell hs2 k hkl; have hix := (hs2.at1 Tryz.underlying69 Tryz.sizeOf3 k hkl); have hc2 := hs2.cap; have hl2 := hs2.le; have K2 := Lib.hid hk2; clear hs2 hk2))
      go_ret2
      rw [HQ.out, Int.toNat_natCast]
      exact ⟨rfl, ((Keeps.refl w).alloc _).trans K2.out⟩
    · have HQ : Hid (matR' js l en day = (0, 2)) := Lib.hid (by unfold matR'; rw [hr, if_pos rfl, if_neg he])
      by_cases hn : en < 0
      · have e1 : decide (en < 0) = true := decide_eq_true hn
        clear hr HJ H he
        go_enter Tryz.func178, Tryz.ntmps178
        go_wp2_with (first | (refine wpList_load_mid rfl 29 _ rfl w.heap.size 0 rfl (grpC G (.slice ao js.length cap)) _ hload Tryz.underlying29 rfl groupSize ?_) | (go_at_call 186; (refine (HALL.out _ ((Keeps.refl w).alloc _)).mono ?_); rintro e w2 ⟨ao2, cap2, b2, o2, rfl, hs2, hk2⟩; have K2 := Lib.hid hk2; clear hs2 hk2))
        go_ret2
        rw [HQ.out]
        exact ⟨rfl, ((Keeps.refl w).alloc _).trans K2.out⟩
      · have e1 : decide (en < 0) = false := decide_eq_false hn
        have e2 : decide ((js.length : Int) ≤ en) = true := decide_eq_true (by omega)
        clear hr HJ H he
        go_enter Tryz.func178, Tryz.ntmps178
        go_wp2_with (first | (refine wpList_load_mid rfl 29 _ rfl w.heap.size 0 rfl (grpC G (.slice ao js.length cap)) _ hload Tryz.underlying29 rfl groupSize ?_) | (go_at_call 186; (refine (HALL.out _ ((Keeps.refl w).alloc _)).mono ?_); rintro e w2 ⟨ao2, cap2, b2, o2, rfl, hs2, hk2⟩; have K2 := Lib.hid hk2; clear hs2 hk2))
        go_ret2
        rw [HQ.out]
        exact ⟨rfl, ((Keeps.refl w).alloc _).trans K2.out⟩
  · have HQ : Hid (matR' js l en day = (0, re)) := Lib.hid (by unfold matR'; rw [hr, if_neg h0])
    have e3 : (!(re == 0)) = true := by simpa using h0
    clear hr HJ H
    go_enter Tryz.func178, Tryz.ntmps178
    go_wp2_with (first | (refine wpList_load_mid rfl 29 _ rfl w.heap.size 0 rfl (grpC G (.slice ao js.length cap)) _ hload Tryz.underlying29 rfl groupSize ?_) | (go_at_call 186; (refine (HALL.out _ ((Keeps.refl w).alloc _)).mono ?_); rintro e w2 ⟨ao2, cap2, b2, o2, rfl, hs2, hk2⟩; have K2 := Lib.hid hk2; clear hs2 hk2))
    go_ret2
    rw [HQ.out]
    exact ⟨rfl, ((Keeps.refl w).alloc _).trans K2.out⟩
end Go.Proofs.YtoaidbhiciaeaaaGreat

end
section
namespace Go.Proofs.YtoaidbhiciaeaaaGreat
open Go.RowKit Go.Maps
set_option linter.unusedSimpArgs false
set_option linter.unusedVariables false
structure Rls where
  (r0 r1 r2 r3 r4 r5 r6 r7 r8 r9 r10 r11 r12 r13 r14 : Int)
structure Rol where
  nm : ByteArray
  code : Int
  kind : Int
  basis : Int
  mapped : Bool
def Rol.cells (r : Rol) : List Value := [.string r.nm, .int .i64 r.code, .int .i64 r.kind, .int .i64 r.basis, .bool r.mapped]
theorem Rol.len (r : Rol) : r.cells.length = 5 := rfl
def Rls.vals (r : Rls) : List Value := [.int .i64 r.r0, .int .i64 r.r1, .int .i64 r.r2, .int .i64 r.r3, .int .i64 r.r4, .int .i64 r.r5, .int .i64 r.r6, .int .i64 r.r7, .int .i64 r.r8, .int .i64 r.r9, .int .i64 r.r10, .int .i64 r.r11, .int .i64 r.r12, .int .i64 r.r13, .int .i64 r.r14]
def rolesL (r : Rls) : List Rol := [
  ⟨⟨#[105, 110, 118, 101, 115, 116, 109, 101, 110, 116]⟩, r.r0, 1, 3, true⟩,
  ⟨⟨#[103, 111, 111, 100, 119, 105, 108, 108]⟩, r.r1, 1, 3, false⟩,
  ⟨⟨#[97, 115, 115, 111, 99, 105, 97, 116, 101, 115]⟩, r.r2, 1, 3, false⟩,
  ⟨⟨#[105, 110, 118, 101, 110, 116, 111, 114, 121]⟩, r.r3, 1, 1, true⟩,
  ⟨⟨#[114, 101, 115, 101, 114, 118, 101]⟩, r.r4, 3, 3, false⟩,
  ⟨⟨#[109, 105, 110, 111, 114, 105, 116, 121]⟩, r.r5, 3, 3, false⟩,
  ⟨⟨#[114, 101, 116, 97, 105, 110, 101, 100]⟩, r.r6, 3, 3, true⟩,
  ⟨⟨#[97, 99, 113, 117, 105, 114, 101, 100]⟩, r.r7, 3, 3, false⟩,
  ⟨⟨#[111, 119, 110, 101, 114, 115]⟩, r.r8, 3, 3, false⟩,
  ⟨⟨#[100, 105, 115, 112, 111, 115, 97, 108]⟩, r.r9, 4, 2, false⟩,
  ⟨⟨#[97, 115, 115, 111, 99, 105, 97, 116, 101, 80, 114, 111, 102, 105, 116]⟩, r.r10, 4, 2, false⟩,
  ⟨⟨#[100, 105, 118, 105, 100, 101, 110, 100, 115]⟩, r.r11, 4, 2, true⟩,
  ⟨⟨#[109, 105, 110, 111, 114, 105, 116, 121, 80, 114, 111, 102, 105, 116]⟩, r.r12, 5, 2, false⟩,
  ⟨⟨#[100, 105, 102, 102, 101, 114, 101, 110, 99, 101]⟩, r.r13, 5, 2, false⟩,
  ⟨⟨#[109, 97, 114, 103, 105, 110]⟩, r.r14, 5, 2, false⟩]
theorem rolesL_len (r : Rls) : (rolesL r).length = 15 := rfl
structure Grp where
  cur : ByteArray
  y : Int
  m : Int
  n : Int
  chart : List Acc
  rl : Rls
  ents : List Ent
def Grp.cells (g : Grp) (cv ev : Value) : List Value := [.string g.cur, .int .i64 g.y, .int .i64 g.m, .int .i64 g.n, cv, .int .i64 g.rl.r0, .int .i64 g.rl.r1, .int .i64 g.rl.r2, .int .i64 g.rl.r3, .int .i64 g.rl.r4, .int .i64 g.rl.r5, .int .i64 g.rl.r6, .int .i64 g.rl.r7, .int .i64 g.rl.r8, .int .i64 g.rl.r9, .int .i64 g.rl.r10, .int .i64 g.rl.r11, .int .i64 g.rl.r12, .int .i64 g.rl.r13, .int .i64 g.rl.r14, ev]
def basedB (a : Acc) : Bool := if a.kind = 1 ∨ a.kind = 2 then a.basis == 1 || a.basis == 3 else if a.kind = 3 then a.basis == 3 else a.basis == 2
def okRole (c : List Acc) (l : List Rol) (k : Nat) : Bool := match l[k]? with
  | none => true
  | some r => match findA c r.code with
    | none => false
    | some a => !((l.take k).any (fun q => q.code == r.code)) && (a.kind == r.kind && a.basis == r.basis)
def accB (g : Grp) : Bool := validRB g.chart true && (!(g.chart.any (fun a => !basedB a)) && (List.range (rolesL g.rl).length).all (okRole g.chart (rolesL g.rl)))
def closedP (l : List Rol) (c : Int) : Bool := match l.reverse.find? (fun r => r.code == c) with
  | none => false
  | some r => !r.mapped
def entB (g : Grp) (e : Ent) : Bool := nameB e.name && (curB e.cur && (mvalidB e g.chart && !(e.links.any (fun l => closedP (rolesL g.rl) l.to))))
def okEnt (g : Grp) (k : Nat) : Bool := match g.ents[k]? with
  | none => true
  | some e => !((g.ents.take k).any (fun q => decide (q.name = e.name))) && entB g e
def jointAt (g : Grp) (k : Nat) : Bool := (g.ents[k]?.map Ent.joint).getD false
def grpB (g : Grp) : Bool := curB g.cur && (calB g.y g.m g.n && (accB g && (decide (1 ≤ g.ents.length) && (decide (g.ents.length ≤ 12) && (!(jointAt g 0) && (List.range g.ents.length).all (okEnt g))))))
def Rls.Ok (r : Rls) : Prop := ∀ q ∈ rolesL r, I64 q.code
def Acc.OkA (x : Acc) : Prop := I64 x.code ∧ I64 x.parent
def Lnk.OkL (x : Lnk) : Prop := I64 x.frm ∧ I64 x.to ∧ I64 x.since
def Ent.Ok (e : Ent) : Prop := e.name.size ≤ maxLen ∧ e.cur.size ≤ maxLen ∧ e.chart.length ≤ 200 ∧ e.links.length ≤ 400 ∧ (∀ x ∈ e.chart, x.OkA) ∧ ∀ x ∈ e.links, x.OkL
def Grp.Ok (g : Grp) : Prop := g.cur.size ≤ maxLen ∧ g.chart.length ≤ 200 ∧ (∀ x ∈ g.chart, x.OkA) ∧ g.rl.Ok ∧ (∀ e ∈ g.ents, e.Ok) ∧ g.ents.length ≤ 1000
def EntsV (w : World) (ao : Option Addr) (l : List Ent) (cap b o : Nat) : Prop := ∃ cs, Sl w 5 ao l.length cap b o cs ∧ ∀ k (h : k < l.length), ∃ c v, (∀ j u, [Value.string l[k].name, .string l[k].cur, c, v, .bool l[k].joint][j]? = some u → cs[k * 5 + j]? = some u) ∧ AccL w c l[k].chart ∧ LnkL w v l[k].links
section
variable {w w' : World} {ao : Option Addr} {l : List Ent} {cap b o : Nat}
theorem EntsV.keeps (h : EntsV w ao l cap b o) (k : Keeps w w') : EntsV w' ao l cap b o := by
  obtain ⟨cs, h1, h2⟩ := h
  refine ⟨cs, h1.keeps k, fun i hi => ?_⟩
  obtain ⟨c, v, h3, h4, h5⟩ := h2 i hi
  exact ⟨c, v, h3, h4.keeps k, h5.keeps k⟩
theorem EntsV.capE (h : EntsV w ao l cap b o) : cap ≤ 9223372036854775807 := by obtain ⟨cs, h1, _⟩ := h; exact h1.cap
theorem EntsV.leE (h : EntsV w ao l cap b o) : l.length ≤ cap := by obtain ⟨cs, h1, _⟩ := h; exact h1.le
theorem EntsV.atE (h : EntsV w ao l cap b o) (k : Nat) (hk : k < l.length) : ∀ w', (Instr.indexAt 27 (.slice ao l.length cap) (.int .i64 (k : Int))).run Tryz.prog w' = .ok (.pointer (some ⟨b, o + k * 5, none⟩)) w' := by obtain ⟨cs, h1, _⟩ := h; exact Sl.at h1 Tryz.underlying27 Tryz.sizeOf106 k hk
theorem EntsV.ent (h : EntsV w ao l cap b o) (k : Nat) (hk : k < l.length) : ∃ aoC capC bC oC aoL capL bL oL, Accs w aoC l[k].chart capC bC oC ∧ Lnks w aoL l[k].links capL bL oL ∧
    w.rangeAt b (o + k * 5) [.string l[k].name, .string l[k].cur, .slice aoC l[k].chart.length capC, .slice aoL l[k].links.length capL, .bool l[k].joint] := by
  obtain ⟨cs, h1, h2⟩ := h
  obtain ⟨c, v, h3, ⟨aoC, capC, bC, oC, rfl, hC⟩, ⟨aoL, capL, bL, oL, rfl, hL⟩⟩ := h2 k hk
  refine ⟨aoC, capC, bC, oC, aoL, capL, bL, oL, hC, hL, fun j u hu => ?_⟩
  have := h1.cell _ _ (h3 j u hu)
  rw [show o + k * 5 + j = o + (k * 5 + j) from by omega]
  exact this
theorem EntsV.ents (h : EntsV w ao l cap b o) : Ents w ao (l.map Ent.joint) cap b o := by
  obtain ⟨cs, h1, h2⟩ := h
  refine ⟨cs, by rw [List.length_map]; exact h1, fun k hk => ?_⟩
  rw [List.length_map] at hk
  obtain ⟨c, v, h3, _⟩ := h2 k hk
  rw [List.getElem_map]
  exact h3 4 _ rfl
end
theorem range_sub {w : World} {b : Nat} {cs : List Value} (h : w.rangeAt b 0 cs) (o : Nat) (ds : List Value) (hd : ∀ j v, ds[j]? = some v → cs[o + j]? = some v) : w.rangeAt b o ds := fun j v hv => by
  have := h (o + j) v (hd j v hv)
  rwa [Nat.zero_add] at this
theorem rolesSize : (Tryz.prog.info? 26).map (·.size) = some 15 := by kernel_rfl
theorem okRole_at {c : List Acc} {l : List Rol} {k : Nat} (hk : k < l.length) : okRole c l k = ((findA c l[k].code).isSome && (!((l.take k).any (fun q => q.code == l[k].code)) && (((findA c l[k].code).getD Acc.zero).kind == l[k].kind && ((findA c l[k].code).getD Acc.zero).basis == l[k].basis))) := by
  unfold okRole
  rw [List.getElem?_eq_getElem hk]
  cases h : findA c l[k].code <;> simp [h]
theorem okEnt_at {g : Grp} {k : Nat} (hk : k < g.ents.length) : okEnt g k = (!((g.ents.take k).any (fun q => decide (q.name = g.ents[k].name))) && entB g g.ents[k]) := by
  unfold okEnt
  rw [List.getElem?_eq_getElem hk]
def strK : KeyEnc Tryz.prog 9 ByteArray where
  enc s := .string s
  lit s := .string s.data.toList
  ok s := s.size ≤ maxLen
  keyed := Keyed.of_law (Go.WideMaps.string_law Tryz.underlying9)
  key s h := Go.WideMaps.keyOf_string_mk Tryz.underlying9 h
  inj a b _ _ h := by simpa using h
def seenS (ls : List ByteArray) : ByteArray → Option Value := fun d => if ls.any (fun s => decide (s = d)) then some (.bool true) else none
theorem seenS_nil : seenS [] = fun _ => none := by funext d; simp [seenS]
theorem seenS_get (ls : List ByteArray) (s : ByteArray) : (seenS ls s).getD (.bool false) = .bool (ls.any (fun a => decide (a = s))) := by
  unfold seenS
  cases h : ls.any (fun a => decide (a = s)) <;> simp
theorem seenS_snoc (ls : List ByteArray) (s : ByteArray) : seenS (ls ++ [s]) s = some (.bool true) ∧ ∀ d, d ≠ s → seenS (ls ++ [s]) d = seenS ls d := by
  refine ⟨by simp [seenS], fun d hd => ?_⟩
  have : decide (s = d) = false := decide_eq_false (fun e => hd e.symm)
  unfold seenS
  rw [List.any_append, show ([s].any fun q => decide (q = d)) = false from by rw [List.any_cons, this]; rfl, Bool.or_false]
end Go.Proofs.YtoaidbhiciaeaaaGreat

end
