/- ScopeCovers: the walk of the law. -/
import Derived.Test.YtkpdimbblcmnaaaLawSM
import Derived.Deep.QuietTactic
import Derived.BigQuiet
namespace Go.Proofs.Ytkpdimbblcmnaaa
open Go.RowKit
set_option linter.unusedSimpArgs false
set_option linter.unusedVariables false

/-- What is said of the intervals of an entity. -/
structure Good (out : List Ivl) : Prop where
  ne : out ≠ []
  mem : ∀ y ∈ out, -25568 ≤ y.frm ∧ y.frm < y.to ∧ y.to ≤ 84006 ∧ 0 ≤ y.mth ∧ y.mth ≤ 3
  chain : ∀ k (h : k + 1 < out.length), out[k].to = (out[k + 1]).frm ∧ out[k].mth ≠ (out[k + 1]).mth
  first : ∀ x, out.head? = some x → x.frm ≤ -25567
  last : ∀ x, out.getLast? = some x → x.to = 84006
theorem good_ivs {js : List Bool} {l : List Hol} {xs : List Int} (h : IsDates l xs) (hv : hvalidB (js.length : Int) l = true) (e : Nat) : Good (ivsF (mAt js l e) (sdays xs)) := by
  have I := ivsF_ok h hv e
  refine ⟨I.ne, fun y hy => ?_, I.chain, fun x hx => ?_, fun x hx => (I.last x hx).1⟩
  · obtain ⟨h1, h2, h3⟩ := ivl_to h hv e hy
    have h4 := (I.mem y hy).2.2 y.frm (I.mem y hy).1 (Int.le_refl _) h2
    have h5 := mAt_rng js l e y.frm
    rw [h4] at h5
    exact ⟨by omega, h2, h3, h5⟩
  · have := I.first x hx
    have h0 : (sdays xs).head? = some (-25567) := rfl
    rw [h0] at this
    injection this with this
    omega
theorem ivR_good {js : List Bool} {l : List Hol} {xs : List Int} (h : IsDates l xs) (en : Int) : (∃ re, re ≠ 0 ∧ ivR js l xs en = ([], re)) ∨ ∃ rl, ivR js l xs en = (rl, 0) ∧ Good rl := by
  cases hv : hvalidB (js.length : Int) l with
  | false => exact .inl ⟨1, by decide, ivR_1 hv⟩
  | true =>
    by_cases hr : 0 ≤ en ∧ en < (js.length : Int)
    · by_cases h0 : en = 0
      · refine .inr ⟨_, ivR_3 hv hr h0, by simp, fun y hy => ?_, fun k hk => by simp at hk, fun x hx => ?_, fun x hx => ?_⟩
        · simp at hy; subst hy; decide
        · simp at hx; subst hx; decide
        · simp at hx; subst hx; rfl
      · exact .inr ⟨_, ivR_4 hv hr h0, good_ivs h hv _⟩
    · exact .inl ⟨2, by decide, ivR_2 hv hr⟩
/-- The days of the parts of the methods below n. -/
def dsum (out : List Ivl) (a b : Int) : Nat → Int
  | 0 => 0
  | n + 1 => dsum out a b n + daysI (partsI out (n : Int) a b)
theorem dsum4 {out : List Ivl} {a b : Int} (h : Good out) (ha : -25567 ≤ a) (hab : a ≤ b) (hb : b ≤ 84005) : dsum out a b 4 = b - a := by
  obtain ⟨x, o, ho⟩ := head_map h.ne
  have hx := h.first x (by rw [ho]; rfl)
  have := days_all (f := x.frm) h.ne (fun y hy => ⟨(h.mem y hy).2.1, (h.mem y hy).2.2.2⟩) (fun k hk => (h.chain k hk).1) (by rw [ho]; rfl) h.last (by omega) hab (by omega)
  rw [← this]
  simp [dsum, daysA]
theorem daysI_take (ps : List Ivl) (k : Nat) (hk : k < ps.length) : daysI (ps.take (k + 1)) = daysI (ps.take k) + (ps[k].to - ps[k].frm) := by rw [take_snoc _ _ hk, daysI_snoc]
theorem daysI_bd {a b : Int} (hab : a ≤ b) : ∀ (ps : List Ivl), (∀ p ∈ ps, a ≤ p.frm ∧ p.to ≤ b ∧ p.frm < p.to) → 0 ≤ daysI ps ∧ daysI ps ≤ (b - a) * (ps.length : Int) := by
  intro ps
  induction ps using snoc_indI with
  | h0 => intro _; simp [daysI]
  | h1 ps p ih =>
    intro h
    obtain ⟨h1, h2⟩ := ih fun q hq => h q (List.mem_append_left _ hq)
    obtain ⟨h3, h4, h5⟩ := h p (by simp)
    rw [daysI_snoc, List.length_append, List.length_singleton]
    have : (b - a) * ((ps.length + 1 : Nat) : Int) = (b - a) * (ps.length : Int) + (b - a) := by rw [Int.natCast_add, Int.mul_add]; simp
    rw [this]
    omega
theorem part_bd {out : List Ivl} {m a b : Int} (hl : out.length ≤ 1000) (ha : -25567 ≤ a) (hab : a ≤ b) (hb : b ≤ 84005) (k : Nat) : 0 ≤ daysI ((partsI out m a b).take k) ∧ daysI ((partsI out m a b).take k) ≤ 200000000 := by
  obtain ⟨h1, h2⟩ := daysI_bd hab ((partsI out m a b).take k) fun p hp => (parts_mem (List.mem_of_mem_take hp)).2
  have h3 := partsI_len out m a b
  have h4 : ((partsI out m a b).take k).length ≤ 1000 := by rw [List.length_take]; omega
  refine ⟨h1, Int.le_trans h2 ?_⟩
  have h5 : (b - a) * (((partsI out m a b).take k).length : Int) ≤ 200000 * 1000 := Int.mul_le_mul (by omega) (by omega) (by omega) (by omega)
  omega
theorem dsum_bd {out : List Ivl} {a b : Int} (hl : out.length ≤ 1000) (ha : -25567 ≤ a) (hab : a ≤ b) (hb : b ≤ 84005) : ∀ n, 0 ≤ dsum out a b n ∧ dsum out a b n ≤ 200000000 * (n : Int) := by
  intro n
  induction n with
  | zero => simp [dsum]
  | succ n ih =>
    have h := part_bd (m := (n : Int)) hl ha hab hb (partsI out (n : Int) a b).length
    rw [List.take_length] at h
    simp only [dsum]
    omega
set_option maxRecDepth 100000 in
set_option maxHeartbeats 4000000 in
theorem lawSCov_any (js : List Bool) (l : List Hol) (p0 p1 p2 p3 : Int) (wfz : I64 p0 ∧ I64 p1 ∧ I64 p2 ∧ I64 p3) (ao : Option Addr) (cap b o : Nat) (aol : Option Addr) (capl bl ol : Nat) (w : World) (HJ : Sl w 1 ao js.length cap b o (js.map .bool)) (H : Hols w aol l capl bl ol) (hok : ∀ x ∈ l, x.Ok) :
    Calls Try.prog 9 #[.slice ao js.length cap, .slice aol l.length capl, .agg #[.int .i64 p0, .int .i64 p1, .int .i64 p2, .int .i64 p3]] w fun e w' => e = .returned (.bool true) ∧ Keeps w w' := by


  have hcap := HJ.cap
  have hle := HJ.le
  have hcapl := Sl.cap H
  have hlel := Sl.le H
  have HHJ := Lib.hid HJ
  have HH := Lib.hid H
  have HO := Lib.hid hok
  clear HJ H hok
  obtain ⟨xs, hxs⟩ := isDates_ex l
  obtain ⟨f, hfew⟩ : ∃ f, (decide (js.length ≤ 12) && decide (l.length ≤ 20)) = f := ⟨_, rfl⟩
  cases f with
  | true =>
    have hf2 := hfew
    simp only [Bool.and_eq_true, decide_eq_true_eq] at hf2
    obtain ⟨hj12, hl20⟩ := hf2
    have HJ : Hid (∀ W, Keeps w W → Calls Try.prog 15 #[.slice ao js.length cap] W fun e w' => ∃ ao cap b o, e = .returned (.agg #[.string ⟨#[]⟩, .int .i64 0, .int .i64 0, .int .i64 0, .slice none 0 0, .int .i64 0, .int .i64 0, .int .i64 0, .int .i64 0, .int .i64 0, .int .i64 0, .int .i64 0, .int .i64 0, .int .i64 0, .int .i64 0, .int .i64 0, .int .i64 0, .int .i64 0, .int .i64 0, .int .i64 0, .slice ao js.length cap]) ∧ Ents w' ao js cap b o ∧ Keeps W w') := Lib.hid (fun W hk => joint_any js ao cap b o W (HHJ.out.keeps hk) (by omega))
    have HV2 := Lib.hid (hrdate_any p2)
    have HV3 := Lib.hid (hrdate_any p3)
    by_cases hc : dateB p2 = true ∧ dateB p3 = true ∧ p2 ≤ p3
    · obtain ⟨hc2, hc3, hc23⟩ := hc
      rw [hc2] at HV2
      rw [hc3] at HV3
      have e23 : decide (p3 < p2) = false := decide_eq_false (by omega)
      rcases ivR_good (js := js) hxs p0 with ⟨re, hre, hr⟩ | ⟨rl, hr, hg⟩
      · have HM1 : Hid (∀ W ao cap b o, Keeps w W → Ents W ao js cap b o → Calls Try.prog 23 #[.agg #[.string ⟨#[]⟩, .int .i64 0, .int .i64 0, .int .i64 0, .slice none 0 0, .int .i64 0, .int .i64 0, .int .i64 0, .int .i64 0, .int .i64 0, .int .i64 0, .int .i64 0, .int .i64 0, .int .i64 0, .int .i64 0, .int .i64 0, .int .i64 0, .int .i64 0, .int .i64 0, .int .i64 0, .slice ao js.length cap], .slice aol l.length capl, .int .i64 p0] W fun e w' => ∃ ao cap b o, e = .returned (.tuple #[.slice ao 0 cap, .int .i64 re]) ∧ Ivls w' ao [] cap b o ∧ Keeps W w') := Lib.hid (fun W ao cap b o hk he => by
          have := ivals_any js l xs hxs p0 ao cap b o aol capl bl ol W he (HH.out.keeps hk) (by omega) HO.out
          rw [hr] at this
          exact this)
        have hre2 : (re != 0) = true := by simpa using hre
        have hre1 : (!(re == 0)) = true := by simpa using hre
        have hre3 : (re == 0) = false := by simpa using hre
        clear hr hre
        go_enter Try.func9, Try.ntmps9
        go_wp2_with (first | (refine wpList_store_mid rfl 33 _ _ rfl w2.heap.size 0 (grpC (.slice ao2 js.length cap2)).toArray rfl rfl (there_new w2 33 (grpC (.slice none 0 0))) groupSize (grpC_one _ _ _) ?_; change wpList _ _ _ _ _ (withG w2 (.slice ao2 js.length cap2)); obtain ⟨w3, hw3⟩ : ∃ w3, withG w2 (.slice ao2 js.length cap2) = w3 := ⟨_, rfl⟩; have hk3 := withG_keeps w2 (.slice ao2 js.length cap2); have hrg := withG_range w2 (.slice ao2 js.length cap2); rw [hw3] at hk3 hrg; have K3 := Lib.hid (K2.out.trans hk3); have HRG := Lib.hid hrg; have HS3 := Lib.hid (HS2.out.keeps hk3); rw [hw3]; have y0 := (hk3).cell x0; have y1 := (hk3).cell x1; have y2 := (hk3).cell x2; have y3 := (hk3).cell x3; clear x0 x1 x2 x3 hzx; have x0 := y0; have x1 := y1; have x2 := y2; have x3 := y3; have hzx := World.block_lt_of_cell? _ _ x0; clear y0 y1 y2 y3; clear hk3 hrg hw3) | (refine wpList_load_mid rfl 33 _ rfl w2.heap.size 0 rfl (grpC (.slice ao2 js.length cap2)) _ HRG.out Try.underlying33 rfl groupSize ?_) | (go_at_call 23; (refine (HM1.out _ _ _ _ _ K3.out HS3.out).mono ?_); rintro e w4 ⟨ao4, cap4, b4, o4, rfl, hs4, hk4⟩; have K4 := Lib.hid (K3.out.trans hk4); clear hs4 hk4) | (go_at_call 15; (refine (HJ.out _ K1.out).mono ?_); rintro e w2 ⟨ao2, cap2, b2, o2, rfl, hs2, hk2⟩; have HS2 := Lib.hid hs2; have K2 := Lib.hid (K1.out.trans hk2); have hc2 := Sl.cap hs2; have hl2 := Sl.le hs2; have y0 := (hk2).cell x0; have y1 := (hk2).cell x1; have y2 := (hk2).cell x2; have y3 := (hk2).cell x3; clear x0 x1 x2 x3 hzx; have x0 := y0; have x1 := y1; have x2 := y2; have x3 := y3; have hzx := World.block_lt_of_cell? _ _ x0; clear y0 y1 y2 y3; clear hs2 hk2) | (go_at_call 28; first | ((with_reducible refine (HV2.out _).mono ?_); rintro e wv ⟨rfl, rfl⟩) | ((with_reducible refine (HV3.out _).mono ?_); rintro e wv ⟨rfl, rfl⟩)) | (go_at_call 22; refine (sfew_any _ _ _ _ _ _ _ _ hfew).mono ?_; rintro e wf ⟨rfl, rfl⟩) | (go_at_call 21; refine (sawake_any _).mono ?_; rintro e w1 ⟨rfl, hk1⟩; have K1 := Lib.hid (((Keeps.refl w).alloc _).trans hk1); have x0 := (hk1).cell (p := ⟨w.heap.size, 0, none⟩) (v := .int .i64 p0) (by go_simp); have x1 := (hk1).cell (p := ⟨w.heap.size, 1, none⟩) (v := .int .i64 p1) (by go_simp); have x2 := (hk1).cell (p := ⟨w.heap.size, 2, none⟩) (v := .int .i64 p2) (by go_simp); have x3 := (hk1).cell (p := ⟨w.heap.size, 3, none⟩) (v := .int .i64 p3) (by go_simp); have hzx := World.block_lt_of_cell? _ _ x0; clear hk1))
        go_ret
        exact ⟨rfl, K4.out⟩
      · obtain ⟨n0, hn0⟩ : ∃ n0, rl.length = n0 + 1 := ⟨rl.length - 1, by have := List.length_pos_iff.2 hg.ne; omega⟩
        have hrl : rl.length ≤ 1000 := by
          have := ivR_len (js := js) (en := p0) hxs (by omega)
          rw [hr] at this
          exact this
        obtain ⟨hb21, hb22⟩ := dateB_true.1 hc2
        obtain ⟨hb31, hb32⟩ := dateB_true.1 hc3
        have HM1 : Hid (∀ W ao cap b o, Keeps w W → Ents W ao js cap b o → Calls Try.prog 23 #[.agg #[.string ⟨#[]⟩, .int .i64 0, .int .i64 0, .int .i64 0, .slice none 0 0, .int .i64 0, .int .i64 0, .int .i64 0, .int .i64 0, .int .i64 0, .int .i64 0, .int .i64 0, .int .i64 0, .int .i64 0, .int .i64 0, .int .i64 0, .int .i64 0, .int .i64 0, .int .i64 0, .int .i64 0, .slice ao js.length cap], .slice aol l.length capl, .int .i64 p0] W fun e w' => ∃ ao cap b o, e = .returned (.tuple #[.slice ao (n0 + 1) cap, .int .i64 0]) ∧ Ivls w' ao rl cap b o ∧ Keeps W w') := Lib.hid (fun W ao cap b o hk he => by
          have := ivals_any js l xs hxs p0 ao cap b o aol capl bl ol W he (HH.out.keeps hk) (by omega) HO.out
          rw [hr] at this
          unfold IvOut at this
          rw [hn0] at this
          exact this)
        have HMP : Hid (∀ (j : Nat) W ao cap b o, Keeps w W → Ents W ao js cap b o → Calls Try.prog 26 #[.agg #[.string ⟨#[]⟩, .int .i64 0, .int .i64 0, .int .i64 0, .slice none 0 0, .int .i64 0, .int .i64 0, .int .i64 0, .int .i64 0, .int .i64 0, .int .i64 0, .int .i64 0, .int .i64 0, .int .i64 0, .int .i64 0, .int .i64 0, .int .i64 0, .int .i64 0, .int .i64 0, .int .i64 0, .slice ao js.length cap], .slice aol l.length capl, .int .i64 p0, .int .i64 (j : Int), .int .i64 p2, .int .i64 p3] W fun e w' => ∃ ao cap b o, e = .returned (.tuple #[.slice ao (partsI rl (j : Int) p2 p3).length cap, .int .i64 0]) ∧ Ivls w' ao (partsI rl (j : Int) p2 p3) cap b o ∧ Keeps W w') := Lib.hid (fun j W ao cap b o hk he => by
          have := parts_any js l xs hxs p0 (j : Int) p2 p3 ao cap b o aol capl bl ol W he (HH.out.keeps hk) (by omega) HO.out
          rw [hr, part_0] at this
          exact this)
        have HD4 := Lib.hid (dsum4 hg hb21 hc23 hb32)
        have HDB := Lib.hid (fun n => dsum_bd hrl hb21 hc23 hb32 n)
        have HPB := Lib.hid (fun (j : Nat) k => part_bd (m := (j : Int)) hrl hb21 hc23 hb32 k)
        have HG := Lib.hid hg
        have HN := Lib.hid hn0
        have HLB := Lib.hid hrl
        clear hr hg hn0 hc2 hc3 hrl
        go_enter Try.func9, Try.ntmps9
        go_wp2_with (first | (refine wpList_store_mid rfl 33 _ _ rfl w2.heap.size 0 (grpC (.slice ao2 js.length cap2)).toArray rfl rfl (there_new w2 33 (grpC (.slice none 0 0))) groupSize (grpC_one _ _ _) ?_; change wpList _ _ _ _ _ (withG w2 (.slice ao2 js.length cap2)); obtain ⟨w3, hw3⟩ : ∃ w3, withG w2 (.slice ao2 js.length cap2) = w3 := ⟨_, rfl⟩; have hk3 := withG_keeps w2 (.slice ao2 js.length cap2); have hrg := withG_range w2 (.slice ao2 js.length cap2); rw [hw3] at hk3 hrg; have K3 := Lib.hid (K2.out.trans hk3); have HRG := Lib.hid hrg; have HS3 := Lib.hid (HS2.out.keeps hk3); rw [hw3]; have y0 := (hk3).cell x0; have y1 := (hk3).cell x1; have y2 := (hk3).cell x2; have y3 := (hk3).cell x3; clear x0 x1 x2 x3 hzx; have x0 := y0; have x1 := y1; have x2 := y2; have x3 := y3; have hzx := World.block_lt_of_cell? _ _ x0; clear y0 y1 y2 y3; clear hk3 hrg hw3) | (refine wpList_load_mid rfl 33 _ rfl w2.heap.size 0 rfl (grpC (.slice ao2 js.length cap2)) _ HRG.out Try.underlying33 rfl groupSize ?_) | (go_at_call 23; (refine (HM1.out _ _ _ _ _ K3.out HS3.out).mono ?_); rintro e w4 ⟨ao4, cap4, b4, o4, rfl, hs4, hk4⟩; have K4 := Lib.hid (K3.out.trans hk4); have HS4 := Lib.hid hs4; have hc4 := Sl.cap hs4; have hl4 := Sl.le hs4; rw [HN.out] at hl4; have HE4 := Lib.hid (HS3.out.keeps hk4); have HRG4 := Lib.hid (rangeAt_keeps HRG.out hk4); have y0 := (hk4).cell x0; have y1 := (hk4).cell x1; have y2 := (hk4).cell x2; have y3 := (hk4).cell x3; clear x0 x1 x2 x3 hzx; have x0 := y0; have x1 := y1; have x2 := y2; have x3 := y3; have hzx := World.block_lt_of_cell? _ _ x0; clear y0 y1 y2 y3; clear hs4 hk4) | (go_at_call 15; (refine (HJ.out _ K1.out).mono ?_); rintro e w2 ⟨ao2, cap2, b2, o2, rfl, hs2, hk2⟩; have HS2 := Lib.hid hs2; have K2 := Lib.hid (K1.out.trans hk2); have hc2 := Sl.cap hs2; have hl2 := Sl.le hs2; have y0 := (hk2).cell x0; have y1 := (hk2).cell x1; have y2 := (hk2).cell x2; have y3 := (hk2).cell x3; clear x0 x1 x2 x3 hzx; have x0 := y0; have x1 := y1; have x2 := y2; have x3 := y3; have hzx := World.block_lt_of_cell? _ _ x0; clear y0 y1 y2 y3; clear hs2 hk2) | (go_at_call 28; first | ((with_reducible refine (HV2.out _).mono ?_); rintro e wv ⟨rfl, rfl⟩) | ((with_reducible refine (HV3.out _).mono ?_); rintro e wv ⟨rfl, rfl⟩)) | (go_at_call 22; refine (sfew_any _ _ _ _ _ _ _ _ hfew).mono ?_; rintro e wf ⟨rfl, rfl⟩) | (go_at_call 21; refine (sawake_any _).mono ?_; rintro e w1 ⟨rfl, hk1⟩; have K1 := Lib.hid (((Keeps.refl w).alloc _).trans hk1); have x0 := (hk1).cell (p := ⟨w.heap.size, 0, none⟩) (v := .int .i64 p0) (by go_simp); have x1 := (hk1).cell (p := ⟨w.heap.size, 1, none⟩) (v := .int .i64 p1) (by go_simp); have x2 := (hk1).cell (p := ⟨w.heap.size, 2, none⟩) (v := .int .i64 p2) (by go_simp); have x3 := (hk1).cell (p := ⟨w.heap.size, 3, none⟩) (v := .int .i64 p3) (by go_simp); have hzx := World.block_lt_of_cell? _ _ x0; clear hk1))
        go_loopw [10] (fun vi wr => ∃ k q : Nat, k ≤ n0 + 1 ∧ vi = .int .i64 k ∧ wr = w4.drewN q) (fun vi _ => n0 + 1 - (intOf vi).toNat)
        case atStart => exact ⟨0, 0, Nat.zero_le _, rfl, rfl⟩
        case round =>
          obtain ⟨k, q, hk, rfl, rfl⟩ := hrel
          by_cases hlt : k < n0 + 1
          · have hkl : k < rl.length := by have := HN.out; omega
            have c0 := HS4.out.cell Ivl.len k hkl 0 _ rfl
            have c1 := HS4.out.cell Ivl.len k hkl 1 _ rfl
            have c2 := HS4.out.cell Ivl.len k hkl 2 _ rfl
            have hix := Sl.at HS4.out Try.underlying47 Try.sizeOf57 k hkl
            rw [HN.out] at hix
            simp only [Nat.add_zero] at c0
            have hm1 := (HG.out.mem _ (List.getElem_mem hkl)).2.1
            have e1 : decide (rl[k].to ≤ rl[k].frm) = false := decide_eq_false (by omega)
            cases k with
            | zero =>
              simp only [Nat.zero_mul, Nat.add_zero, Int.natCast_zero] at c0 c1 c2 hix
              clear hm1
              go_wp2_with fail
              go_quiet (fail)
              go_wp2_with fail
              go_roundw
              case rel => exact ⟨1, _, by omega, by go_num, rfl⟩
              case measure => simp [intOf]
            | succ k =>
              have hkl0 : k < rl.length := by omega
              obtain ⟨ch1, ch2⟩ := HG.out.chain k hkl
              have d1 := HS4.out.cell Ivl.len k hkl0 1 _ rfl
              have d2 := HS4.out.cell Ivl.len k hkl0 2 _ rfl
              have hix0 := Sl.at HS4.out Try.underlying47 Try.sizeOf57 k hkl0
              rw [HN.out] at hix0
              have hix' := hix
              rw [Int.natCast_add, Int.natCast_one] at hix'
              obtain ⟨za, hza⟩ : ∃ za, rl[k + 1].frm = za := ⟨_, rfl⟩
              obtain ⟨zb, hzb⟩ : ∃ zb, rl[k + 1].to = zb := ⟨_, rfl⟩
              obtain ⟨zc, hzc⟩ : ∃ zc, rl[k + 1].mth = zc := ⟨_, rfl⟩
              obtain ⟨yc, hyc⟩ : ∃ yc, rl[k].mth = yc := ⟨_, rfl⟩
              rw [hza] at c0 e1 ch1
              rw [hzb] at c1 e1
              rw [hzc] at c2 ch2
              rw [ch1] at d1
              rw [hyc] at d2 ch2
              have e2 : (zc == yc) = false := by simpa using fun e : zc = yc => ch2 e.symm
              clear hm1 ch1 ch2 hza hzb hzc hyc
              go_wp2_with fail
              go_quiet (fail)
              go_wp2_with fail
              go_roundw
              case rel => exact ⟨k + 1 + 1, _, by omega, by go_num, rfl⟩
              case measure => simp [intOf]; omega
          · obtain rfl : k = n0 + 1 := by omega
            have hk0 : 0 < rl.length := by have := HN.out; omega
            have hkn : n0 < rl.length := by have := HN.out; omega
            have f0c := HS4.out.cell Ivl.len 0 hk0 0 _ rfl
            have fix := Sl.at HS4.out Try.underlying47 Try.sizeOf57 0 hk0
            have l1c := HS4.out.cell Ivl.len n0 hkn 1 _ rfl
            have lix := Sl.at HS4.out Try.underlying47 Try.sizeOf57 n0 hkn
            rw [HN.out] at fix lix
            simp only [Nat.zero_mul, Nat.add_zero, Int.natCast_zero] at f0c fix
            have hfirst := HG.out.first _ (by rw [List.head?_eq_getElem?, List.getElem?_eq_getElem hk0])
            have hlast := HG.out.last _ (by rw [List.getLast?_eq_getElem?, show rl.length - 1 = n0 from by have := HN.out; omega, List.getElem?_eq_getElem hkn])
            rw [hlast] at l1c
            obtain ⟨fa, hfa⟩ : ∃ fa, rl[0].frm = fa := ⟨_, rfl⟩
            rw [hfa] at f0c hfirst
            have ef : decide (-25567 < fa) = false := decide_eq_false (by omega)
            have en0 : (((n0 : Int) + 1) == 0) = false := by
              have : (n0 : Int) + 1 ≠ 0 := by omega
              simpa using this
            clear hfa hfirst hlast
            go_wp2_with fail
            have K5 : Hid (Keeps w (w4.drewN q)) := Lib.hid (K4.out.drewN q)
            have KX : Hid (Keeps w4 (w4.drewN q)) := Lib.hid ((Keeps.refl w4).drewN q)
            obtain ⟨wa, hwa⟩ : ∃ wa, w4.drewN q = wa := ⟨_, rfl⟩
            rw [hwa] at K5 KX
            rw [hwa]
            clear hwa f0c fix l1c lix
            go_loopw [11, 12] (fun vd vm wr => ∃ j : Nat, j ≤ 4 ∧ vm = .int .i64 j ∧ vd = .int .i64 (dsum rl p2 p3 j) ∧ Hid (Keeps w4 wr)) (fun _ vm _ => 4 - (intOf vm).toNat)
            case atStart => exact ⟨0, by omega, rfl, rfl, KX⟩
            case round =>
              obtain ⟨j, hj, rfl, rfl, KJ⟩ := hrel
              by_cases hj3 : j ≤ 3
              · have hjd : decide ((j : Int) ≤ 3) = true := decide_eq_true (by omega)
                have hrgj := rangeAt_keeps HRG4.out KJ.out
                have X0 := KJ.out.cell x0
                have X1 := KJ.out.cell x1
                have X2 := KJ.out.cell x2
                have X3 := KJ.out.cell x3
                have hzj := World.block_lt_of_cell? _ _ X0
                have HMJ := Lib.hid (HMP.out j)
                have hpm : ∀ p ∈ partsI rl (j : Int) p2 p3, p.mth = (j : Int) ∧ p2 ≤ p.frm ∧ p.to ≤ p3 ∧ p.frm < p.to := fun p hp => parts_mem hp
                have hpb := HPB.out j
                have hdb := HDB.out j
                have hds : dsum rl p2 p3 (j + 1) = dsum rl p2 p3 j + daysI (partsI rl (j : Int) p2 p3) := rfl
                obtain ⟨P, hP⟩ : ∃ P, partsI rl (j : Int) p2 p3 = P := ⟨_, rfl⟩
                obtain ⟨dj, hdj⟩ : ∃ dj, dsum rl p2 p3 j = dj := ⟨_, rfl⟩
                rw [hP] at HMJ hpm hpb hds
                rw [hdj] at hds hdb ⊢
                have HPM := Lib.hid hpm
                have HPB2 := Lib.hid hpb
                have HDS := Lib.hid hds
                clear hpm hpb hds hP
                go_wp2_with (first | (refine wpList_load_mid rfl 33 _ rfl w2.heap.size 0 rfl (grpC (.slice ao2 js.length cap2)) _ hrgj Try.underlying33 rfl groupSize ?_) | (go_at_call 26; (refine (HMJ.out _ _ _ _ _ (K4.out.trans KJ.out) (HE4.out.keeps KJ.out)).mono ?_); rintro e w6 ⟨ao6, cap6, b6, o6, rfl, hs6, hk6⟩; have K6 := Lib.hid (KJ.out.trans hk6); have HS6 := Lib.hid hs6; have hc6 := Sl.cap hs6; have hl6 := Sl.le hs6; have Y0 := hk6.cell X0; have Y2 := hk6.cell X2; have Y3 := hk6.cell X3; have hzy := World.block_lt_of_cell? _ _ Y0; clear hs6 hk6))
                go_loopw [11, 15] (fun vd vi wr => ∃ i q : Nat, i ≤ P.length ∧ vi = .int .i64 i ∧ vd = .int .i64 (dj + daysI (P.take i)) ∧ wr = w6.drewN q) (fun _ vi _ => P.length - (intOf vi).toNat)
                case atStart => exact ⟨0, 0, Nat.zero_le _, rfl, by simp [daysI], rfl⟩
                case round =>
                  obtain ⟨i, q2, hi, rfl, rfl, rfl⟩ := hrel
                  by_cases hlt : i < P.length
                  · have c0 := HS6.out.cell Ivl.len i hlt 0 _ rfl
                    have c1 := HS6.out.cell Ivl.len i hlt 1 _ rfl
                    have c2 := HS6.out.cell Ivl.len i hlt 2 _ rfl
                    have hix := Sl.at HS6.out Try.underlying47 Try.sizeOf57 i hlt
                    simp only [Nat.add_zero] at c0
                    obtain ⟨g1, g2, g3, g4⟩ := HPM.out _ (List.getElem_mem hlt)
                    have HT := Lib.hid (daysI_take P i hlt)
                    have hb1 := HPB2.out i
                    have hb2 := HPB2.out (i + 1)
                    rw [g1] at c2
                    rw [HT.out] at hb2
                    obtain ⟨za, hza⟩ : ∃ za, P[i].frm = za := ⟨_, rfl⟩
                    obtain ⟨zb, hzb⟩ : ∃ zb, P[i].to = zb := ⟨_, rfl⟩
                    obtain ⟨ds, hds⟩ : ∃ ds, daysI (P.take i) = ds := ⟨_, rfl⟩
                    rw [hza, hzb] at HT hb2
                    rw [hds] at HT hb1 hb2 ⊢
                    rw [hza] at c0 g2 g4
                    rw [hzb] at c1 g3 g4
                    have e1 : decide (za < p2) = false := decide_eq_false (by omega)
                    have e2 : decide (p3 < zb) = false := decide_eq_false (by omega)
                    have e3 : decide (zb ≤ za) = false := decide_eq_false (by omega)
                    clear g1 hza hzb hds
                    go_wp2_with fail
                    go_quiet (fail)
                    go_wp2_with fail
                    go_quiet (fail)
                    go_wp2_with fail
                    go_roundw
                    case rel => exact ⟨i + 1, _, by omega, by go_num, by rw [HT.out]; go_num, rfl⟩
                    case measure => simp [intOf]; omega
                  · obtain rfl : i = P.length := by omega
                    have HTX : Hid (dj + daysI (P.take P.length) = dsum rl p2 p3 (j + 1)) := Lib.hid (by rw [HDS.out, List.take_length])
                    rw [HTX.out]
                    go_wp2_with fail
                    go_roundw
                    case rel =>
                      refine ⟨_, _, _, _, _, _, _, _, _, _, _, _, _, _, _, _, _, _, _, _, _, _, _, _, _, _, _, _, _, _, _, _, _, _, _, _, _, _, _, _, _, _, _, _, _, _, _, _, _, _, _, _, _, _, _, _, _, _, _, _, _, _, _, _, _, _, _, _, _, _, _, _, _, _, _, _, _, _, _, _, _, _, _, _, ?_, rfl⟩
                      exact ⟨j + 1, by omega, by go_num, rfl, Lib.hid (K6.out.drewN _)⟩
                    case measure => simp [intOf]; omega
              · obtain rfl : j = 4 := by omega
                have X2 := KJ.out.cell x2
                have X3 := KJ.out.cell x3
                have hzj := World.block_lt_of_cell? _ _ X2
                rw [HD4.out]
                go_wp2_with fail
                go_ret
                exact ⟨by simp, K4.out.trans KJ.out⟩
    · cases h2 : dateB p2 with
      | false =>
        rw [h2] at HV2
        go_enter Try.func9, Try.ntmps9
        go_wp2_with (first | (go_at_call 28; first | ((with_reducible refine (HV2.out _).mono ?_); rintro e wv ⟨rfl, rfl⟩) | ((with_reducible refine (HV3.out _).mono ?_); rintro e wv ⟨rfl, rfl⟩)) | (go_at_call 22; refine (sfew_any _ _ _ _ _ _ _ _ hfew).mono ?_; rintro e wf ⟨rfl, rfl⟩) | (go_at_call 21; refine (sawake_any _).mono ?_; rintro e w1 ⟨rfl, hk1⟩; have K1 := Lib.hid (((Keeps.refl w).alloc _).trans hk1); have x0 := (hk1).cell (p := ⟨w.heap.size, 0, none⟩) (v := .int .i64 p0) (by go_simp); have x1 := (hk1).cell (p := ⟨w.heap.size, 1, none⟩) (v := .int .i64 p1) (by go_simp); have x2 := (hk1).cell (p := ⟨w.heap.size, 2, none⟩) (v := .int .i64 p2) (by go_simp); have x3 := (hk1).cell (p := ⟨w.heap.size, 3, none⟩) (v := .int .i64 p3) (by go_simp); have hzx := World.block_lt_of_cell? _ _ x0; clear hk1))
        go_ret
        exact ⟨rfl, K1.out⟩
      | true =>
        rw [h2] at HV2
        cases h3 : dateB p3 with
        | false =>
          rw [h3] at HV3
          go_enter Try.func9, Try.ntmps9
          go_wp2_with (first | (go_at_call 28; first | ((with_reducible refine (HV2.out _).mono ?_); rintro e wv ⟨rfl, rfl⟩) | ((with_reducible refine (HV3.out _).mono ?_); rintro e wv ⟨rfl, rfl⟩)) | (go_at_call 22; refine (sfew_any _ _ _ _ _ _ _ _ hfew).mono ?_; rintro e wf ⟨rfl, rfl⟩) | (go_at_call 21; refine (sawake_any _).mono ?_; rintro e w1 ⟨rfl, hk1⟩; have K1 := Lib.hid (((Keeps.refl w).alloc _).trans hk1); have x0 := (hk1).cell (p := ⟨w.heap.size, 0, none⟩) (v := .int .i64 p0) (by go_simp); have x1 := (hk1).cell (p := ⟨w.heap.size, 1, none⟩) (v := .int .i64 p1) (by go_simp); have x2 := (hk1).cell (p := ⟨w.heap.size, 2, none⟩) (v := .int .i64 p2) (by go_simp); have x3 := (hk1).cell (p := ⟨w.heap.size, 3, none⟩) (v := .int .i64 p3) (by go_simp); have hzx := World.block_lt_of_cell? _ _ x0; clear hk1))
          go_ret
          exact ⟨rfl, K1.out⟩
        | true =>
          rw [h3] at HV3
          have e23 : decide (p3 < p2) = true := decide_eq_true (by
            rcases Int.lt_or_le p3 p2 with h | h
            · exact h
            · exact absurd ⟨h2, h3, h⟩ hc)
          go_enter Try.func9, Try.ntmps9
          go_wp2_with (first | (go_at_call 28; first | ((with_reducible refine (HV2.out _).mono ?_); rintro e wv ⟨rfl, rfl⟩) | ((with_reducible refine (HV3.out _).mono ?_); rintro e wv ⟨rfl, rfl⟩)) | (go_at_call 22; refine (sfew_any _ _ _ _ _ _ _ _ hfew).mono ?_; rintro e wf ⟨rfl, rfl⟩) | (go_at_call 21; refine (sawake_any _).mono ?_; rintro e w1 ⟨rfl, hk1⟩; have K1 := Lib.hid (((Keeps.refl w).alloc _).trans hk1); have x0 := (hk1).cell (p := ⟨w.heap.size, 0, none⟩) (v := .int .i64 p0) (by go_simp); have x1 := (hk1).cell (p := ⟨w.heap.size, 1, none⟩) (v := .int .i64 p1) (by go_simp); have x2 := (hk1).cell (p := ⟨w.heap.size, 2, none⟩) (v := .int .i64 p2) (by go_simp); have x3 := (hk1).cell (p := ⟨w.heap.size, 3, none⟩) (v := .int .i64 p3) (by go_simp); have hzx := World.block_lt_of_cell? _ _ x0; clear hk1))
          go_ret
          exact ⟨rfl, K1.out⟩
  | false =>
    go_enter Try.func9, Try.ntmps9
    go_wp2_with (first | (go_at_call 22; refine (sfew_any _ _ _ _ _ _ _ _ hfew).mono ?_; rintro e wf ⟨rfl, rfl⟩) | (go_at_call 21; refine (sawake_any _).mono ?_; rintro e w1 ⟨rfl, hk1⟩; have K1 := Lib.hid (((Keeps.refl w).alloc _).trans hk1); skip; clear hk1))
    go_ret
    exact ⟨rfl, K1.out⟩
end Go.Proofs.Ytkpdimbblcmnaaa
