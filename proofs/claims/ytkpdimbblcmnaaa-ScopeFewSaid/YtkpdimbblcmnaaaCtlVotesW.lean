/- control.Votes: the walk. -/
import Derived.Test.YtkpdimbblcmnaaaCtlRankW
namespace Go.Proofs.Ytkpdimbblcmnaaa
open Go.RowKit Go.Shelf
attribute [local go_sem] Oper.semAt_some
set_option linter.unusedSimpArgs false
set_option linter.unusedVariables false

def orS (xs : List (Nat × Nat)) : Nat := xs.foldl (fun a x => (a ||| x.2) % 65536) 0
theorem orS_snoc (xs : List (Nat × Nat)) (x : Nat × Nat) : orS (xs ++ [x]) = (orS xs ||| x.2) % 65536 := by simp [orS, List.foldl_append]
theorem orS_steps (f : Nat → Nat → Int) (n : Nat) (hn : n ≤ 12) : ∀ k, orS (stepsL f n (k + 1)) = encB (inA f n k) n := by
  intro k
  induction k with
  | zero =>
    rw [stepsL_snoc, orS_snoc]
    have h1 := encB_lt12 (inA f n 0) hn
    have e : orS (stepsL f n 0) = 0 := rfl
    rw [e, Nat.zero_or]
    exact Nat.mod_eq_of_lt (by show encB (inA f n 0) n < _; omega)
  | succ k ih =>
    rw [stepsL_snoc, orS_snoc, ih, encB_or, encB_next]
    have h1 := encB_lt12 (inA f n (k + 1)) hn
    exact Nat.mod_eq_of_lt (by omega)
theorem or16_any (a b : Nat) : bits .or .u16 (a : Int) (b : Int) = (((a ||| b) % 65536 : Nat) : Int) := by
  have h1 : (BitVec.ofInt 16 (a : Int)).toNat = a % 2 ^ 16 := by rw [BitVec.ofInt_natCast, BitVec.toNat_ofNat]
  have h2 : (BitVec.ofInt 16 (b : Int)).toNat = b % 2 ^ 16 := by rw [BitVec.ofInt_natCast, BitVec.toNat_ofNat]
  show IntKind.u16.wrap ((BitVec.ofInt 16 (a : Int) ||| BitVec.ofInt 16 (b : Int)).toNat : Int) = _
  rw [BitVec.toNat_or, h1, h2, ← Nat.or_mod_two_pow, IntKind.wrap_u16]
  omega
theorem upv_step {V : Nat → Int} {k : Nat} {v : Int} (h : V k = v) (i : Nat) : updI (fun e => if e < k then V e else 0) k v i = if i < k + 1 then V i else 0 := by
  simp only [updI]
  by_cases h1 : i = k
  · subst h1; rw [if_pos rfl, if_pos (Nat.lt_succ_self _), h]
  · rw [if_neg h1]
    by_cases h2 : i < k
    · rw [if_pos h2, if_pos (by omega)]
    · rw [if_neg h2, if_neg (by omega)]
/-- Votes and an error. -/
def votesR (n : Int) (l : List Hol) (day : Int) : List Int × Int := if (matR n l day).2 = 0 then (fnI (fun e => voteK (f0 l day) (inA (f0 l day) n.toNat n.toNat) e n.toNat) n.toNat, 0) else ([], (matR n l day).2)

set_option maxRecDepth 100000 in
set_option maxHeartbeats 4000000 in
theorem votes_in (n : Int) (l : List Hol) (day : Int) (ao : Option Addr) (cap b o : Nat) (w : World) (H : Hols w ao l cap b o) (hlen : l.length ≤ 900) (hok : ∀ x ∈ l, x.Ok) :
    CallsIn Fence.wide 5 Try.prog 34 #[.int .i64 n, .slice ao l.length cap, .int .i64 day] w fun e w' => ∃ ao cap b o, e = .returned (.tuple #[.slice ao (votesR n l day).1.length cap, .int .i64 (votesR n l day).2]) ∧ Sl w' 1 ao (votesR n l day).1.length cap b o ((votesR n l day).1.map (.int .i64)) ∧ Keeps w w' := by
  have HM0 := matrix_any n ao l cap b o day w H hlen hok
  by_cases hv : hvalidB n l = true ∧ dateB day = true
  · obtain ⟨hv, hd⟩ := hv
    obtain ⟨hn1, hn2⟩ := hvalidB_n hv
    obtain ⟨m, rfl⟩ : ∃ m : Nat, n = (m : Int) := ⟨n.toNat, by omega⟩
    have hm1 : 1 ≤ m := by omega
    have hm : m ≤ 12 := by omega
    have hq : votesR (m : Int) l day = (fnI (fun e => voteK (f0 l day) (inA (f0 l day) m m) e m) m, 0) := by unfold votesR; rw [matR_3 hv hd]; simp
    have hfb := f0_bd hv day
    unfold OutRows at HM0
    rw [matR_3 hv hd, Int.toNat_natCast] at HM0
    simp only [matH_len] at HM0
    rw [hq]
    simp only [fnI_len]
    have HM := Lib.hid HM0
    have HFB := Lib.hid hfb
    obtain ⟨i0, hi, hz0, hz1, hz2⟩ := info_parts infoIntC
    have hg1 : Fence.wide.fn 45 := trivial
    have hg2 : Fence.wide.fn 46 := trivial
    have hg3 : Fence.wide.fn 47 := trivial
    clear HM0 hv hd hn1 hn2 hq hfb H hok
    refine callsIn_of_wp_marks Try.func34 rfl trivial ?_ rfl
    simp only [Try.ntmps34, List.size_toArray, List.length_cons, List.length_nil, Nat.reduceAdd, Nat.reduceSub, Array.replicate_succ, Array.replicate_zero, List.push_toArray, List.append_toArray, List.nil_append, List.cons_append]
    gi_wp2_with (first | (gi_at_call 45; refine (callsIn_wide.2 HM.out).mono ?_; rintro e1 w1 ⟨ao1, cap1, b1, o1, rfl, hs1, hk1⟩; have HS1 := Lib.hid hs1; have K1 := Lib.hid hk1; clear hs1 hk1) | (gi_at_call 46; refine (steps_in Fence.wide _ trivial rfl _ _ _ _).mono ?_; rintro en w' ⟨rfl, rfl⟩))
    have hbox0 := (Boxed.new w1 80 (.int .u16 0)).alloc (.cells #[.slice ao1 m cap1] 77)
    have hbel0 : Below w1.heap.size w1 ((w1.alloc (Obj.cells #[Value.int IntKind.u16 0] 80)).alloc (Obj.cells #[Value.slice ao1 m cap1] 77)) := ((Below.refl _ w1).alloc (Nat.le_refl _) _).alloc (by simp) _
    refine wpIn_rangeFunc_ownH rfl (by omega) (gf := 58) (lb := #[.pointer (some ⟨w1.heap.size + 1, 0, none⟩)]) rfl trivial (enters_of Try.func58 (by kernel_rfl) rfl)
      (steps_stops 4 (by omega) (w1.heap.size + 1) w1.heap.size (w1.heap.size + 1) ao1 (f0 l day) m cap1 b1 o1 hm1 hm HFB.out w1 HS1.out ((w1.alloc (Obj.cells #[Value.int IntKind.u16 0] 80)).alloc (Obj.cells #[Value.slice ao1 m cap1] 77)) (by simp) (by omega) (Nat.le_refl _) (by simp; omega) hbel0 (by go_simp))
      (fun h k => h.trans k) (fun W l o o' hl _ _ _ => KeepBut.putObj W l o' hl) (Below.refl _ _) (fun _ => rfl)
      (fun pre W => Boxed W w1.heap.size 80 (.int .u16 (orS pre : Nat)) ∧ (Below w1.heap.size w1 W ∧ ((w1.alloc (Obj.cells #[Value.int IntKind.u16 0] 80)).alloc (Obj.cells #[Value.slice ao1 m cap1] 77)).heap.size ≤ W.heap.size))
      (fun _ _ _ => False)
      (OwnFrom.and (Own.from (boxed_own _ _ (fun pre => Value.int .u16 (orS pre : Nat))) _) (OwnFrom.and (ownFrom_below (Nat.le_refl _) (by simp; omega)) (fun s X Y row hs hg hr => Nat.le_trans hs hg.size)))
      (fun _ _ _ _ _ hs _ _ => hs)
      ⟨hbox0, ⟨hbel0, Nat.le_refl _⟩⟩
      (fun x a' W => a' = { tmps := #[.int .i64 (m : Int), .slice ao l.length cap, .int .i64 day, undef, undef, undef, .slice none 0 0, .int .i64 0, .slice ao1 m cap1, .int .i64 0, .pointer (some ⟨w1.heap.size, 0, none⟩), undef, .int .u16 (x.2 : Nat), undef, undef, .tuple #[.slice ao1 m cap1, .int .i64 0], .int .i64 (m : Int), .slice ao l.length cap, .int .i64 day, .tuple #[.slice ao1 m cap1, .int .i64 0], .slice ao1 m cap1, .int .i64 0, .int .i64 0, .bool false, undef, .slice ao1 m cap1, .func (.func 58) #[] #[.pointer (some ⟨w1.heap.size + 1, 0, none⟩)], .int .i64 (x.1 : Nat), .int .u16 (x.2 : Nat), undef, undef, undef, undef, undef, undef, undef, undef, undef, undef, undef, undef, undef, undef, undef, undef, undef, undef, undef], defers := [] })
      (fun x a' _ X Y row hs hg hr => hs)
      ?assign ?body ?done ?stop
    case assign =>
      rintro lb pre x W K hI hK
      gi_wp2
      exact hK _ _ (KeepsFrom.refl _ _) (KeepBut.refl _ _ _ _) hI rfl
    case body =>
      rintro lb pre x a' W hlb ⟨r, hr⟩ ⟨hbox, ⟨hbel, hsz⟩⟩ rfl hlt
      have c10 := hbox.cell
      have f10 := hbox.frozen
      have hor := or16_any (orS pre) x.2
      have HI := Lib.hid (And.intro hbox (And.intro hbel hsz))
      clear hr hbox hbel hsz
      gi_wp2
      exact ⟨(KeepsOthers.setCell _ _ _).from _, (KeepBut.refl _ _ _ _).setCell (p := ⟨w1.heap.size, 0, none⟩) (Nat.le_refl _) (by show w1.heap.size < _; omega) _, by rw [orS_snoc]; exact HI.out.1.set _, HI.out.2.1.setCell (Nat.le_refl _) _, by simpa [World.setCell] using HI.out.2.2⟩
    case done =>
      rintro D xs W hD ⟨q, rfl, hq1, hq2, hq3⟩ ⟨hbox, ⟨hbel, hsz⟩⟩ hK
      obtain ⟨p, rfl⟩ : ∃ p, q = p + 1 := ⟨q - 1, by omega⟩
      have hen := ends hm1 hq2 hq1 hq3
      have c10 := hbox.cell
      have b10 := hbox.lt
      rw [orS_steps _ _ hm, ← Nat.add_sub_cancel (n := p) (m := 1), ← hen.2] at c10
      have HB := Lib.hid hbel
      have HK := Lib.hid hK
      have HRD := Lib.hid (HS1.out.keeps (show Keeps w1 W from hbel))
      have hDW := (Array.getElem?_eq_some_iff.1 hK).1
      have hbs := hbel.size
      clear hen hq2 hq3 hbel hbox hK hsz
      gi_wp2_with (gi_at_make; refine wpListIn_makeZ _ rfl _ _ 35 rfl 3 i0 (.int .i64 0) Try.underlying35 hi hz0 hz1 rfl _ _ _ _ m rfl rfl rfl rfl (by rw [hz2]; omega) (by omega) ?_)
      have HR0 : Hid (RowB (W.alloc (Obj.cells (Array.replicate m (Value.int IntKind.i64 0)) 3)) W.heap.size 3 (rowI (fun _ => 0) m)) := Lib.hid (by
        rw [← rowI_zero]
        have := RowB.new W 3 (List.replicate m (.int .i64 0))
        simpa using this)
      gi_loopw [36] (fun vi wy => ∃ k : Nat, k ≤ m ∧ vi = .int .i64 k ∧ Hid (RowB wy W.heap.size 3 (rowI (fun e => if e < k then voteK (f0 l day) (inA (f0 l day) m m) e m else 0) m)) ∧ Hid (Keeps W wy)) (fun vi _ => m - (intOf vi).toNat)
      case atStart => exact ⟨0, Nat.zero_le _, rfl, Lib.hid (by simpa using HR0.out), Lib.hid ((Keeps.refl W).alloc _)⟩
      case round =>
        obtain ⟨k, hk, rfl, HX, HKY⟩ := hrel
        by_cases hlt : k < m
        · obtain ⟨v, hv⟩ : ∃ v, voteK (f0 l day) (inA (f0 l day) m m) k m = v := ⟨_, rfl⟩
          have hV : CallsIn Fence.wide 4 Try.prog 47 #[.slice ao1 m cap1, .int .u16 (encB (inA (f0 l day) m m) m : Nat), .int .i64 (k : Int)] wr fun en w' => en = .returned (.int .i64 v) ∧ w' = wr := by
            rw [← hv]
            exact callsIn_wide.2 (votes_any (f0 l day) m hm HFB.out (inA (f0 l day) m m) k hlt ao1 cap1 b1 o1 wr (HRD.out.keeps HKY.out))
          have HVJ := Lib.hid hV
          have HVV := Lib.hid hv
          have c12 := HKY.out.cell c10
          have b12 := World.block_lt_of_cell? _ _ c12
          have c0 := HX.out.cell k _ (rowI_get _ _ _ hlt)
          have f0' := HX.out.frozen k
          have hb0 := HX.out.lt
          clear hV hv
          gi_wp2_with (gi_at_call 47; refine HVJ.out.mono ?_; rintro en w4 ⟨rfl, rfl⟩)
          go_roundw
          case rel => exact ⟨k + 1, by omega, by go_num, Lib.hid (by
            have := HX.out.set k (.int .i64 v)
            rw [rowI_set, rowI_congr (fun i _ => upv_step (V := fun e => voteK (f0 l day) (inA (f0 l day) m m) e m) HVV.out i)] at this
            exact this), Lib.hid (HKY.out.setCell (p := ⟨W.heap.size, k, none⟩) (Nat.le_refl _) _)⟩
          case measure => simp [intOf]; omega
        · obtain rfl : k = m := by omega
          have HZ : Hid (RowB wr W.heap.size 3 (rowI (fun e => voteK (f0 l day) (inA (f0 l day) k k) e k) k)) := Lib.hid (by
            rw [rowI_congr (fun i hi => show voteK (f0 l day) (inA (f0 l day) k k) i k = if i < k then voteK (f0 l day) (inA (f0 l day) k k) i k else 0 by rw [if_pos hi])]
            exact HX.out)
          have HKD := Lib.hid ((HKY.out.block D hDW).trans HK.out)
          gi_wp2
          refine ⟨by simp, .inl ⟨_, _, rfl, run_takeDeferred HKD.out, ?_⟩⟩
          have hD' : w1.heap.size + 1 + 1 ≤ D := by simpa using hD
          exact ⟨_, results_tmp2 rfl _ _ _, _, _, _, _, rfl, (HZ.out.putObj D _ (by omega)).slI (by omega), K1.out.trans (show Keeps w1 _ from (Below.trans HB.out (HKY.out.mono hbs)).trans (belowK_b (w := w1) (Nat.le_refl _) wr D _ _ (by omega) HKD.out rfl rfl))⟩
    case stop =>
      rintro D c pre W _ _ h _
      exact h.elim
  · obtain ⟨re, hr, h0⟩ : ∃ re, matR n l day = ([], re) ∧ re ≠ 0 := by
      cases h1 : hvalidB n l with
      | false => exact ⟨1, matR_1 h1, by decide⟩
      | true =>
        cases h2 : dateB day with
        | false => exact ⟨2, matR_2 h1 h2, by decide⟩
        | true => exact absurd ⟨h1, h2⟩ hv
    have hq : votesR n l day = ([], re) := by unfold votesR; rw [hr, if_neg h0]
    unfold OutRows at HM0
    rw [hr] at HM0
    rw [hq]
    have HM := Lib.hid HM0
    have e2 : (re != 0) = true := by simpa using h0
    have hg1 : Fence.wide.fn 45 := trivial
    clear HM0 hv hr hq H hok
    refine callsIn_of_wp_marks Try.func34 rfl trivial ?_ rfl
    simp only [Try.ntmps34, List.size_toArray, List.length_cons, List.length_nil, Nat.reduceAdd, Nat.reduceSub, Array.replicate_succ, Array.replicate_zero, List.push_toArray, List.append_toArray, List.nil_append, List.cons_append]
    gi_wp2_with (gi_at_call 45; refine (callsIn_wide.2 HM.out).mono ?_; rintro e1 w1 ⟨ao1, cap1, b1, o1, rfl, hs1, hk1⟩; have HS1 := Lib.hid hs1; have K1 := Lib.hid hk1; clear hs1 hk1)
    exact ⟨_, results_tmp2 rfl _ _ _, none, 0, 0, 0, rfl, Sl.nil _ _, K1.out⟩
end Go.Proofs.Ytkpdimbblcmnaaa
