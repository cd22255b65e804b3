/- ScopeFew: the walk of the law. -/
import Derived.Test.YtkpdimbblcmnaaaLawSC
import Derived.Test.YtkpdimbblcmnaaaHolRSet
import Derived.Test.YtkpdimbblcmnaaaHolRAt
namespace Go.Proofs.Ytkpdimbblcmnaaa
open Go.RowKit
set_option linter.unusedSimpArgs false
set_option linter.unusedVariables false

/-- The type's number. -/
abbrev holT : TypeId := 46
theorem setH_fine {n : Int} {l : List Hol} {h : Hol} {rl : List Hol} {re : Int} (hr : setH n l h = (rl, re)) (h0 : re = 0) : rl = putH l h ∧ hvalidB n l = true ∧ hvalidB n (putH l h) = true := by
  subst h0
  unfold setH at hr
  split at hr
  · simp at hr
  · rename_i h1
    split at hr
    · simp at hr
    · split at hr
      · simp at hr
      · split at hr
        · simp at hr
        · rename_i h4
          simp at hr
          exact ⟨hr.symm, by simpa using h1, by simpa using h4⟩
/-- The entities lie apart from a block of four ints. -/
theorem ents_apart {W : World} {B : Nat} {t : TypeId} {a b c d : Int} {ao : Option Addr} {js : List Bool} {cap bb o : Nat} (hB : RowB W B t [.int .i64 a, .int .i64 b, .int .i64 c, .int .i64 d]) (h : Ents W ao js cap bb o) : js.length ≠ 0 → bb ≠ B := by
  intro hne e
  subst e
  have hc := h.cell entC_len 0 (by omega) 0 (.string ⟨#[]⟩) rfl
  have : W.cell? ⟨bb, o + 0 * 5 + 0, none⟩ = ([.int .i64 a, .int .i64 b, .int .i64 c, .int .i64 d] : List Value)[o + 0 * 5 + 0]? := by simp [World.cell?, show W.heap[bb]? = _ from hB]
  rw [this] at hc
  generalize o + 0 * 5 + 0 = q at hc
  rcases q with _ | _ | _ | _ | q <;> simp at hc
theorem ents_setCell {w : World} {ao : Option Addr} {js : List Bool} {cap b o : Nat} (h : Ents w ao js cap b o) {p : Addr} (hb : js.length ≠ 0 → b ≠ p.block) (v : Value) : Ents (w.setCell p v) ao js cap b o :=
  ⟨h.len, h.le, h.nocap, h.cap, h.addr, fun j u hu => by
    have hne : js.length ≠ 0 := fun e0 => by
      rw [List.eq_nil_of_length_eq_zero e0] at hu; simp at hu
    rw [World.cell?_setCell_other _ _ _ _ (by intro e; exact hb hne (by rw [e]))]
    exact Sl.cell h j u hu⟩
theorem range_setCell {w : World} {b o : Nat} {cs : List Value} (h : w.rangeAt b o cs) {p : Addr} (hb : b ≠ p.block) (v : Value) : (w.setCell p v).rangeAt b o cs := fun j u hu => by
  rw [World.cell?_setCell_other _ _ _ _ (by intro e; exact hb (by rw [e]))]
  exact h j u hu
/-- What ScopeFew says of one entity. -/
structure FewE (js : List Bool) (l rl : List Hol) (xs ys : List Int) (e : Nat) (out : List Ivl) : Prop where
  a : ivR js l xs (e : Int) = (out, 0)
  b : ivR js rl ys (e : Int) = (out, 0)
  dates : ∀ k, 1 ≤ k → ∀ h : k < out.length, ∃ y ∈ l, y.date = out[k].frm
  ne : 1 ≤ out.length
theorem fewE {js : List Bool} {l rl : List Hol} {x : Hol} {xs ys : List Int} (hx : IsDates l xs) (hrl : rl = putH l x) (hy : IsDates rl ys) (hv : hvalidB (js.length : Int) l = true) (hv2 : hvalidB (js.length : Int) (putH l x) = true) (hs : x.share = atH l x.holder x.entity x.date) (e : Nat) (he : e < js.length) : ∃ out, FewE js l rl xs ys e out := by
  subst hrl
  have hr : 0 ≤ (e : Int) ∧ (e : Int) < (js.length : Int) := by omega
  by_cases h0 : (e : Int) = 0
  · exact ⟨_, ivR_3 hv hr h0, ivR_3 hv2 hr h0, fun k h1 h2 => by simp at h2; omega, by simp⟩
  · refine ⟨_, ivR_4 hv hr h0, ?_, fun k h1 h2 => ?_, ?_⟩
    · rw [ivR_4 hv2 hr h0, ivs_repeat hx hy hv hv2 hs]
    · have I := ivsF_ok hx hv e
      rw [Int.toNat_natCast] at h2
      obtain ⟨j, rfl⟩ : ∃ j, k = j + 1 := ⟨k - 1, by omega⟩
      have hc := (I.chain j h2).1
      have hm := (I.mem _ (List.getElem_mem (by omega : j < (ivsF (mAt js l e) (sdays xs)).length)))
      have h3 := (dateB_true.1 (sdays_bd hx hv _ hm.1)).1
      have hm2 := (I.mem _ (List.getElem_mem h2)).1
      rcases (sdays_mem hx).1 hm2 with h4 | ⟨_, y, hy1, hy2⟩
      · exfalso
        have := hm.2.1
        omega
      · exact ⟨y, hy1, by simpa using hy2⟩
    · have := (ivsF_ok hx hv (e : Int).toNat).ne
      exact List.length_pos_iff.2 this
theorem any_upto (l : List Hol) (d : Int) (j : Nat) (hj : j < l.length) : (l.take (j + 1)).any (fun y => y.date == d) = ((l.take j).any (fun y => y.date == d) || (l[j].date == d)) := by
  rw [take_snoc _ _ hj, List.any_append]
  simp
set_option maxRecDepth 100000 in
set_option maxHeartbeats 4000000 in
theorem lawSFew_any (js : List Bool) (l : List Hol) (x : Hol) (okx : x.Ok) (ao : Option Addr) (cap b o : Nat) (aol : Option Addr) (capl bl ol : Nat) (w : World) (HJ : Sl w 1 ao js.length cap b o (js.map .bool)) (H : Hols w aol l capl bl ol) (hok : ∀ x ∈ l, x.Ok) :
    Calls Try.prog 10 #[.slice ao js.length cap, .slice aol l.length capl, .agg #[.int .i64 x.holder, .int .i64 x.entity, .int .i64 x.date, .int .i64 x.share]] w fun e w' => e = .returned (.bool true) ∧ Keeps w w' := by


  have hcap := HJ.cap
  have hle := HJ.le
  have hcapl := Sl.cap H
  have hlel := Sl.le H
  have HHJ := Lib.hid HJ
  have HH := Lib.hid H
  have HO := Lib.hid hok
  clear HJ H hok
  obtain ⟨xs, hxs⟩ := isDates_ex l
  obtain ⟨f, hfew⟩ : ∃ f, (decide (js.length ≤ 12) && decide (l.length ≤ 20)) = f := ⟨_, rfl⟩
  cases f with
  | true =>
    have hf2 := hfew
    simp only [Bool.and_eq_true, decide_eq_true_eq] at hf2
    obtain ⟨hj12, hl20⟩ := hf2
    have HJ : Hid (∀ W, Keeps w W → Calls Try.prog 15 #[.slice ao js.length cap] W fun e w' => ∃ ao cap b o, e = .returned (.agg #[.string ⟨#[]⟩, .int .i64 0, .int .i64 0, .int .i64 0, .slice none 0 0, .int .i64 0, .int .i64 0, .int .i64 0, .int .i64 0, .int .i64 0, .int .i64 0, .int .i64 0, .int .i64 0, .int .i64 0, .int .i64 0, .int .i64 0, .int .i64 0, .int .i64 0, .int .i64 0, .int .i64 0, .slice ao js.length cap]) ∧ Ents w' ao js cap b o ∧ Keeps W w') := Lib.hid (fun W hk => joint_any js ao cap b o W (HHJ.out.keeps hk) (by omega))
    obtain ⟨sv, hsv⟩ : ∃ sv, atH l x.holder x.entity x.date = sv := ⟨_, rfl⟩
    have HAT : Hid (∀ W, Keeps w W → Calls Try.prog 29 #[.slice aol l.length capl, .int .i64 x.holder, .int .i64 x.entity, .int .i64 x.date] W fun e w' => e = .returned (.int .i64 sv) ∧ Keeps W w') := Lib.hid (fun W hk => by
      have := rhat_any aol l capl bl ol x.holder x.entity x.date W (HH.out.keeps hk)
      rw [hsv] at this
      exact this)
    obtain ⟨⟨rl, re⟩, hr⟩ : ∃ r, setH (js.length : Int) l ⟨x.holder, x.entity, x.date, sv⟩ = r := ⟨_, rfl⟩
    have HSE : Hid (∀ W, Keeps w W → Calls Try.prog 30 #[.int .i64 (js.length : Int), .slice aol l.length capl, .agg #[.int .i64 x.holder, .int .i64 x.entity, .int .i64 x.date, .int .i64 sv]] W fun e w' => ∃ ao cap b o, e = .returned (.tuple #[.slice ao rl.length cap, .int .i64 re]) ∧ Hols w' ao rl cap b o ∧ Keeps W w') := Lib.hid (fun W hk => by
      have := rset_any (js.length : Int) aol l capl bl ol ⟨x.holder, x.entity, x.date, sv⟩ W (HH.out.keeps hk) (by omega)
      rw [hr] at this
      exact this)
    by_cases h0 : re = 0
    · obtain ⟨hrl, hv, hv2⟩ := setH_fine hr h0
      obtain ⟨ys, hys⟩ := isDates_ex rl
      have HFE : Hid (∀ e < js.length, ∃ out, FewE js l rl xs ys e out) := Lib.hid (fun e he => fewE hxs hrl hys hv hv2 hsv.symm e he)
      have hsv2 : I64 sv := by
        rw [← hsv]
        unfold atH
        cases hc : curH x.date (ofPair l x.holder x.entity) with
        | none => unfold I64; decide
        | some m => exact (HO.out m (List.mem_filter.1 (curH_mem hc)).1).2.2.2
      have hokr : ∀ y ∈ rl, y.Ok := by rw [hrl]; exact putH_ok HO.out ⟨okx.1, okx.2.1, okx.2.2.1, hsv2⟩
      have hlr : rl.length ≤ 21 := by rw [hrl]; have := putH_len l ⟨x.holder, x.entity, x.date, sv⟩; omega
      have HI1 : Hid (∀ (e : Nat) out, ivR js l xs (e : Int) = (out, 0) → ∀ W ao cap b o, Keeps w W → Ents W ao js cap b o → Calls Try.prog 23 #[.agg #[.string ⟨#[]⟩, .int .i64 0, .int .i64 0, .int .i64 0, .slice none 0 0, .int .i64 0, .int .i64 0, .int .i64 0, .int .i64 0, .int .i64 0, .int .i64 0, .int .i64 0, .int .i64 0, .int .i64 0, .int .i64 0, .int .i64 0, .int .i64 0, .int .i64 0, .int .i64 0, .int .i64 0, .slice ao js.length cap], .slice aol l.length capl, .int .i64 (e : Int)] W fun e w' => ∃ ao cap b o, e = .returned (.tuple #[.slice ao out.length cap, .int .i64 0]) ∧ Ivls w' ao out cap b o ∧ Keeps W w') := Lib.hid (fun e out ho W ao cap b o hk he => by
        have := ivals_any js l xs hxs (e : Int) ao cap b o aol capl bl ol W he (HH.out.keeps hk) (by omega) HO.out
        rw [ho] at this
        exact this)
      have HI2 : Hid (∀ (e : Nat) out, ivR js rl ys (e : Int) = (out, 0) → ∀ W ao cap b o aor capr br orr, Ents W ao js cap b o → Hols W aor rl capr br orr → Calls Try.prog 23 #[.agg #[.string ⟨#[]⟩, .int .i64 0, .int .i64 0, .int .i64 0, .slice none 0 0, .int .i64 0, .int .i64 0, .int .i64 0, .int .i64 0, .int .i64 0, .int .i64 0, .int .i64 0, .int .i64 0, .int .i64 0, .int .i64 0, .int .i64 0, .int .i64 0, .int .i64 0, .int .i64 0, .int .i64 0, .slice ao js.length cap], .slice aor rl.length capr, .int .i64 (e : Int)] W fun e w' => ∃ ao cap b o, e = .returned (.tuple #[.slice ao out.length cap, .int .i64 0]) ∧ Ivls w' ao out cap b o ∧ Keeps W w') := Lib.hid (fun e out ho W ao cap b o aor capr br orr he hh => by
        have := ivals_any js rl ys hys (e : Int) ao cap b o aor capr br orr W he hh (by omega) hokr
        rw [ho] at this
        exact this)
      subst h0
      clear hr hrl hv hv2 hsv hsv2 hokr
      go_enter Try.func10, Try.ntmps10
      go_wp2_with (first | (refine wpList_store_mid rfl 33 _ _ rfl w2.heap.size 0 (grpC (.slice ao2 js.length cap2)).toArray rfl rfl (there_new w2 33 (grpC (.slice none 0 0))) groupSize (grpC_one _ _ _) ?_; change wpList _ _ _ _ _ (withG w2 (.slice ao2 js.length cap2)); obtain ⟨w3, hw3⟩ : ∃ w3, withG w2 (.slice ao2 js.length cap2) = w3 := ⟨_, rfl⟩; have hk3 := withG_keeps w2 (.slice ao2 js.length cap2); have hrg := withG_range w2 (.slice ao2 js.length cap2); rw [hw3] at hk3 hrg; have K3 := Lib.hid (K2.out.trans hk3); have HRG := Lib.hid hrg; have HS3 := Lib.hid (HS2.out.keeps hk3); rw [hw3]; have RB := RowB.keeps HRB.out (hk3); clear x0 x1 x2 x3 y3 hzx HRB; have x0 := RowB.cell RB 0 _ rfl; have x1 := RowB.cell RB 1 _ rfl; have x2 := RowB.cell RB 2 _ rfl; have x3 := RowB.cell RB 3 _ rfl; have y3 := RowB.frozen RB 3; have hzx := RowB.lt RB; have HRB := Lib.hid RB; clear RB; clear hk3 hrg hw3) | (go_at_call 30; go_loud ((refine (HSE.out _ K4S.out).mono ?_); rintro e w5 ⟨ao5, cap5, b5, o5, rfl, hs5, hk5⟩; have K5 := Lib.hid (K4S.out.trans hk5); have HS5 := Lib.hid hs5; have HE5 := Lib.hid (HE4S.out.keeps hk5); have HRG5 := Lib.hid (rangeAt_keeps HRG4S.out hk5); clear hs5 hk5)) | (go_at_call 29; go_loud ((refine (HAT.out _ K3.out).mono ?_); rintro e w4 ⟨rfl, hk4⟩; have K4 := Lib.hid (K3.out.trans hk4); have HE4 := Lib.hid (HS3.out.keeps hk4); have HRG4 := Lib.hid (rangeAt_keeps HRG.out hk4); have RB := RowB.keeps HRB.out (hk4); clear x0 x1 x2 x3 y3 hzx HRB; have x0 := RowB.cell RB 0 _ rfl; have x1 := RowB.cell RB 1 _ rfl; have x2 := RowB.cell RB 2 _ rfl; have x3 := RowB.cell RB 3 _ rfl; have y3 := RowB.frozen RB 3; have hzx := RowB.lt RB; have HRB := Lib.hid RB; clear RB; have K4S := Lib.hid (K4.out.setCell (p := ⟨w.heap.size, 3, none⟩) (Nat.le_refl _) (.int .i64 sv)); have HE4S := Lib.hid (ents_setCell HE4.out (p := ⟨w.heap.size, 3, none⟩) (ents_apart HRB.out HE4.out) (.int .i64 sv)); have HRG4S := Lib.hid (range_setCell HRG4.out (p := ⟨w.heap.size, 3, none⟩) (fun e => Nat.lt_irrefl w.heap.size (Nat.lt_of_lt_of_eq hz12 e)) (.int .i64 sv)); clear hk4)) | (go_at_call 15; (refine (HJ.out _ K1.out).mono ?_); rintro e w2 ⟨ao2, cap2, b2, o2, rfl, hs2, hk2⟩; have HS2 := Lib.hid hs2; have K2 := Lib.hid (K1.out.trans hk2); have hc2 := Sl.cap hs2; have hl2 := Sl.le hs2; have hz12 := Nat.lt_of_lt_of_le hzx hk2.size; have RB := RowB.keeps HRB.out (hk2); clear x0 x1 x2 x3 y3 hzx HRB; have x0 := RowB.cell RB 0 _ rfl; have x1 := RowB.cell RB 1 _ rfl; have x2 := RowB.cell RB 2 _ rfl; have x3 := RowB.cell RB 3 _ rfl; have y3 := RowB.frozen RB 3; have hzx := RowB.lt RB; have HRB := Lib.hid RB; clear RB; clear hs2 hk2) | (go_at_call 22; refine (sfew_any _ _ _ _ _ _ _ _ hfew).mono ?_; rintro e wf ⟨rfl, rfl⟩) | (go_at_call 21; refine (sawake_any _).mono ?_; rintro e w1 ⟨rfl, hk1⟩; have K1 := Lib.hid (((Keeps.refl w).alloc _).trans hk1); have RB := RowB.keeps (RowB.new w holT [.int .i64 x.holder, .int .i64 x.entity, .int .i64 x.date, .int .i64 x.share]) (hk1); have x0 := RowB.cell RB 0 _ rfl; have x1 := RowB.cell RB 1 _ rfl; have x2 := RowB.cell RB 2 _ rfl; have x3 := RowB.cell RB 3 _ rfl; have y3 := RowB.frozen RB 3; have hzx := RowB.lt RB; have HRB := Lib.hid RB; clear RB; clear hk1))
      go_loopw [10] (fun vi wr => ∃ e : Nat, e ≤ js.length ∧ vi = .int .i64 e ∧ Hid (Keeps w5 wr)) (fun vi _ => js.length - (intOf vi).toNat)
      case atStart => exact ⟨0, Nat.zero_le _, rfl, Lib.hid (Keeps.refl _)⟩
      case round =>
        obtain ⟨e, he, rfl, KR⟩ := hrel
        by_cases hlt : e < js.length
        · obtain ⟨out, hF⟩ := HFE.out e hlt
          have HF := Lib.hid hF
          have J1 := Lib.hid (HI1.out e out hF.a)
          have J2 := Lib.hid (HI2.out e out hF.b)
          have hne := hF.ne
          have hrgr := rangeAt_keeps HRG5.out KR.out
          have hlt' : decide ((e : Int) < (js.length : Int)) = true := decide_eq_true (by omega)
          obtain ⟨wa, hwa⟩ : ∃ wa, wr = wa := ⟨_, rfl⟩
          subst hwa
          clear hF
          go_wp2_with (first | (refine wpList_load_mid rfl 33 _ rfl w2.heap.size 0 rfl (grpC (.slice ao2 js.length cap2)) _ hrg6 Try.underlying33 rfl groupSize ?_) | (refine wpList_load_mid rfl 33 _ rfl w2.heap.size 0 rfl (grpC (.slice ao2 js.length cap2)) _ hrgr Try.underlying33 rfl groupSize ?_) | (go_at_call 25; (refine (sameIv_any out ao6 ao7 cap6 b6 o6 cap7 b7 o7 _ HS67.out HS7.out).mono ?_); rintro e w8 ⟨rfl, hk8⟩; have K8 := Lib.hid (K7.out.trans hk8); have HS8 := Lib.hid (HS67.out.keeps hk8); clear hk8) | (go_at_call 23; (refine (J2.out _ _ _ _ _ _ _ _ _ (HE5.out.keeps K6.out) (HS5.out.keeps K6.out)).mono ?_); rintro e w7 ⟨ao7, cap7, b7, o7, rfl, hs7, hk7⟩; have HS7 := Lib.hid hs7; have HS67 := Lib.hid (HS6.out.keeps hk7); have K7 := Lib.hid (K6.out.trans hk7); clear hs7 hk7) | (go_at_call 23; (refine (J1.out _ _ _ _ _ (K5.out.trans KR.out) (HE5.out.keeps KR.out)).mono ?_); rintro e w6 ⟨ao6, cap6, b6, o6, rfl, hs6, hk6⟩; have HS6 := Lib.hid hs6; have hc6 := Sl.cap hs6; have hl6 := Sl.le hs6; have K6 := Lib.hid (KR.out.trans hk6); have hrg6 := rangeAt_keeps hrgr hk6; clear hs6 hk6))
          go_loopw [15] (fun vk wx => ∃ k q : Nat, 1 ≤ k ∧ k ≤ out.length ∧ vk = .int .i64 k ∧ wx = w8.drewN q) (fun vk _ => out.length - (intOf vk).toNat)
          case atStart => exact ⟨1, 0, Nat.le_refl _, hne, rfl, rfl⟩
          case round =>
            obtain ⟨k, q, hk1, hk, rfl, rfl⟩ := hrel
            by_cases hlk : k < out.length
            · have c0 := HS8.out.cell Ivl.len k hlk 0 _ rfl
              have hix := Sl.at HS8.out Try.underlying47 Try.sizeOf57 k hlk
              simp only [Nat.add_zero] at c0
              have hdt := HF.out.dates k hk1 hlk
              obtain ⟨za, hza⟩ : ∃ za, out[k].frm = za := ⟨_, rfl⟩
              rw [hza] at c0 hdt
              have HDT := Lib.hid hdt
              have HL8 := Lib.hid (HH.out.keeps (K5.out.trans K8.out))
              clear hza hdt
              go_wp2_with fail
              go_loopw [16, 17] (fun vf vj wy => ∃ j q2 : Nat, j ≤ l.length ∧ vj = .int .i64 j ∧ vf = .bool ((l.take j).any (fun y => y.date == za)) ∧ wy = w8.drewN q2) (fun _ vj _ => l.length - (intOf vj).toNat)
              case atStart => exact ⟨0, q, Nat.zero_le _, rfl, rfl, rfl⟩
              case round =>
                obtain ⟨j, q2, hj, rfl, rfl, rfl⟩ := hrel
                by_cases hlj : j < l.length
                · have d2 := HL8.out.cell Hol.len j hlj 2 _ rfl
                  have hix2 := Sl.at HL8.out Try.underlying23 Try.sizeOf46 j hlj
                  have HA := Lib.hid (any_upto l za j hlj)
                  obtain ⟨yd, hyd⟩ : ∃ yd, l[j].date = yd := ⟨_, rfl⟩
                  rw [hyd] at d2 HA
                  obtain ⟨F, hFb⟩ : ∃ F, (l.take j).any (fun y => y.date == za) = F := ⟨_, rfl⟩
                  obtain ⟨G, hG⟩ : ∃ G, (yd == za) = G := ⟨_, rfl⟩
                  rw [hFb, hG] at HA
                  rw [hFb]
                  clear hyd hFb
                  cases F with
                  | true =>
                    go_wp2_with fail
                    go_quiet (fail)
                    go_wp2_with fail
                    go_roundw
                    case rel => exact ⟨j + 1, _, by omega, by go_num, by rw [HA.out]; rfl, rfl⟩
                    case measure => simp [intOf]; omega
                  | false =>
                    go_wp2_with fail
                    go_quiet (fail)
                    go_wp2_with fail
                    go_roundw
                    case rel => exact ⟨j + 1, _, by omega, by go_num, by rw [HA.out]; rfl, rfl⟩
                    case measure => simp [intOf]; omega
                · obtain rfl : j = l.length := by omega
                  have hall : (l.take l.length).any (fun y => y.date == za) = true := by
                    rw [List.take_length, List.any_eq_true]
                    obtain ⟨y, hy, hyd⟩ := HDT.out
                    exact ⟨y, hy, by simp [hyd]⟩
                  rw [hall]
                  clear hall
                  go_wp2_with fail
                  go_roundw
                  case rel => exact ⟨k + 1, _, by omega, by omega, by go_num, rfl⟩
                  case measure => simp [intOf]; omega
            · obtain rfl : k = out.length := by omega
              go_wp2_with fail
              go_roundw
              case rel => exact ⟨e + 1, by omega, by go_num, Lib.hid (K8.out.drewN _)⟩
              case measure => simp [intOf]; omega
        · obtain rfl : e = js.length := by omega
          go_wp2_with fail
          go_ret
          exact ⟨rfl, K5.out.trans KR.out⟩
    · have hre2 : (re != 0) = true := by simpa using h0
      have hre1 : (!(re == 0)) = true := by simpa using h0
      have hre3 : (re == 0) = false := by simpa using h0
      clear hr h0
      go_enter Try.func10, Try.ntmps10
      go_wp2_with (first | (refine wpList_store_mid rfl 33 _ _ rfl w2.heap.size 0 (grpC (.slice ao2 js.length cap2)).toArray rfl rfl (there_new w2 33 (grpC (.slice none 0 0))) groupSize (grpC_one _ _ _) ?_; change wpList _ _ _ _ _ (withG w2 (.slice ao2 js.length cap2)); obtain ⟨w3, hw3⟩ : ∃ w3, withG w2 (.slice ao2 js.length cap2) = w3 := ⟨_, rfl⟩; have hk3 := withG_keeps w2 (.slice ao2 js.length cap2); have hrg := withG_range w2 (.slice ao2 js.length cap2); rw [hw3] at hk3 hrg; have K3 := Lib.hid (K2.out.trans hk3); have HRG := Lib.hid hrg; have HS3 := Lib.hid (HS2.out.keeps hk3); rw [hw3]; have RB := RowB.keeps HRB.out (hk3); clear x0 x1 x2 x3 y3 hzx HRB; have x0 := RowB.cell RB 0 _ rfl; have x1 := RowB.cell RB 1 _ rfl; have x2 := RowB.cell RB 2 _ rfl; have x3 := RowB.cell RB 3 _ rfl; have y3 := RowB.frozen RB 3; have hzx := RowB.lt RB; have HRB := Lib.hid RB; clear RB; clear hk3 hrg hw3) | (go_at_call 30; go_loud ((refine (HSE.out _ K4S.out).mono ?_); rintro e w5 ⟨ao5, cap5, b5, o5, rfl, hs5, hk5⟩; have K5 := Lib.hid (K4S.out.trans hk5); have HS5 := Lib.hid hs5; have HE5 := Lib.hid (HE4S.out.keeps hk5); have HRG5 := Lib.hid (rangeAt_keeps HRG4S.out hk5); clear hs5 hk5)) | (go_at_call 29; go_loud ((refine (HAT.out _ K3.out).mono ?_); rintro e w4 ⟨rfl, hk4⟩; have K4 := Lib.hid (K3.out.trans hk4); have HE4 := Lib.hid (HS3.out.keeps hk4); have HRG4 := Lib.hid (rangeAt_keeps HRG.out hk4); have RB := RowB.keeps HRB.out (hk4); clear x0 x1 x2 x3 y3 hzx HRB; have x0 := RowB.cell RB 0 _ rfl; have x1 := RowB.cell RB 1 _ rfl; have x2 := RowB.cell RB 2 _ rfl; have x3 := RowB.cell RB 3 _ rfl; have y3 := RowB.frozen RB 3; have hzx := RowB.lt RB; have HRB := Lib.hid RB; clear RB; have K4S := Lib.hid (K4.out.setCell (p := ⟨w.heap.size, 3, none⟩) (Nat.le_refl _) (.int .i64 sv)); have HE4S := Lib.hid (ents_setCell HE4.out (p := ⟨w.heap.size, 3, none⟩) (ents_apart HRB.out HE4.out) (.int .i64 sv)); have HRG4S := Lib.hid (range_setCell HRG4.out (p := ⟨w.heap.size, 3, none⟩) (fun e => Nat.lt_irrefl w.heap.size (Nat.lt_of_lt_of_eq hz12 e)) (.int .i64 sv)); clear hk4)) | (go_at_call 15; (refine (HJ.out _ K1.out).mono ?_); rintro e w2 ⟨ao2, cap2, b2, o2, rfl, hs2, hk2⟩; have HS2 := Lib.hid hs2; have K2 := Lib.hid (K1.out.trans hk2); have hc2 := Sl.cap hs2; have hl2 := Sl.le hs2; have hz12 := Nat.lt_of_lt_of_le hzx hk2.size; have RB := RowB.keeps HRB.out (hk2); clear x0 x1 x2 x3 y3 hzx HRB; have x0 := RowB.cell RB 0 _ rfl; have x1 := RowB.cell RB 1 _ rfl; have x2 := RowB.cell RB 2 _ rfl; have x3 := RowB.cell RB 3 _ rfl; have y3 := RowB.frozen RB 3; have hzx := RowB.lt RB; have HRB := Lib.hid RB; clear RB; clear hs2 hk2) | (go_at_call 22; refine (sfew_any _ _ _ _ _ _ _ _ hfew).mono ?_; rintro e wf ⟨rfl, rfl⟩) | (go_at_call 21; refine (sawake_any _).mono ?_; rintro e w1 ⟨rfl, hk1⟩; have K1 := Lib.hid (((Keeps.refl w).alloc _).trans hk1); have RB := RowB.keeps (RowB.new w holT [.int .i64 x.holder, .int .i64 x.entity, .int .i64 x.date, .int .i64 x.share]) (hk1); have x0 := RowB.cell RB 0 _ rfl; have x1 := RowB.cell RB 1 _ rfl; have x2 := RowB.cell RB 2 _ rfl; have x3 := RowB.cell RB 3 _ rfl; have y3 := RowB.frozen RB 3; have hzx := RowB.lt RB; have HRB := Lib.hid RB; clear RB; clear hk1))
      go_ret
      exact ⟨rfl, K5.out⟩
  | false =>
    go_enter Try.func10, Try.ntmps10
    go_wp2_with (first | (go_at_call 22; refine (sfew_any _ _ _ _ _ _ _ _ hfew).mono ?_; rintro e wf ⟨rfl, rfl⟩) | (go_at_call 21; refine (sawake_any _).mono ?_; rintro e w1 ⟨rfl, hk1⟩; have K1 := Lib.hid (((Keeps.refl w).alloc _).trans hk1); skip; clear hk1))
    go_ret
    exact ⟨rfl, K1.out⟩
end Go.Proofs.Ytkpdimbblcmnaaa
