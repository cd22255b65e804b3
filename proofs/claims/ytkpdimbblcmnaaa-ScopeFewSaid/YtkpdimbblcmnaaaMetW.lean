/- method.All, method.At: the walks. -/
import Derived.Test.YtkpdimbblcmnaaaKMet
import Derived.Test.YtkpdimbblcmnaaaCtlRVotes
namespace Go.Proofs.Ytkpdimbblcmnaaa
open Go.RowKit
set_option linter.unusedSimpArgs false
set_option linter.unusedVariables false

/-- The cells of an entity of a group that 'Joint' makes. -/
def entC (j : Bool) : List Value := [.string ⟨#[]⟩, .string ⟨#[]⟩, .slice none 0 0, .slice none 0 0, .bool j]
theorem entC_len (j : Bool) : (entC j).length = 5 := rfl
abbrev Ents (w : World) (ao : Option Addr) (js : List Bool) (cap b o : Nat) : Prop := Recs w 5 entC ao js cap b o
def upM (V : Nat → Int) (k : Nat) : Nat → Int := fun e => if e < k then V e else 0
theorem upM_step (V : Nat → Int) (k : Nat) (v : Int) (h : V k = v) (i : Nat) : updI (upM V k) k v i = upM V (k + 1) i := upv_step h i
theorem ctl_any (n : Int) (l : List Hol) (day : Int) (ao : Option Addr) (cap b o : Nat) (w : World) (H : Hols w ao l cap b o) (hlen : l.length ≤ 900) (hok : ∀ x ∈ l, x.Ok) :
    Calls Try.prog 34 #[.int .i64 n, .slice ao l.length cap, .int .i64 day] w (OutL w (votesR n l day).1 (votesR n l day).2) := callsIn_wide.1 (votes_in n l day ao cap b o w H hlen hok)
set_option maxRecDepth 100000 in
set_option maxHeartbeats 4000000 in
theorem all_any (js : List Bool) (l : List Hol) (day : Int) (ao : Option Addr) (cap b o : Nat) (aol : Option Addr) (capl bl ol : Nat) (w : World) (HJ : Ents w ao js cap b o) (H : Hols w aol l capl bl ol) (hlen : l.length ≤ 900) (hok : ∀ x ∈ l, x.Ok) :
    Calls Try.prog 16 #[.agg #[.string ⟨#[]⟩, .int .i64 0, .int .i64 0, .int .i64 0, .slice none 0 0, .int .i64 0, .int .i64 0, .int .i64 0, .int .i64 0, .int .i64 0, .int .i64 0, .int .i64 0, .int .i64 0, .int .i64 0, .int .i64 0, .int .i64 0, .int .i64 0, .int .i64 0, .int .i64 0, .int .i64 0, .slice ao js.length cap], .slice aol l.length capl, .int .i64 day] w (OutL w (methR js l day).1 (methR js l day).2) := by
  have hcap := Sl.cap HJ
  have hle := Sl.le HJ
  have HHJ := Lib.hid HJ
  have hc1 : ∀ W, Keeps w W → Calls Try.prog 33 #[.int .i64 (js.length : Int), .slice aol l.length capl, .int .i64 day] W (OutBl W (ctlR (js.length : Int) l day).1 (ctlR (js.length : Int) l day).2) := fun W hk => controlled_any _ l day aol capl bl ol W (H.keeps hk) hlen hok
  have hc2 : ∀ W, Keeps w W → Calls Try.prog 34 #[.int .i64 (js.length : Int), .slice aol l.length capl, .int .i64 day] W (OutL W (votesR (js.length : Int) l day).1 (votesR (js.length : Int) l day).2) := fun W hk => ctl_any _ l day aol capl bl ol W (H.keeps hk) hlen hok
  rcases meth_cases js l day with ⟨hm1, hm, hv, hd, hq1, hq2, hq3⟩ | ⟨re, h0, hq1, hq2, hq3⟩
  · unfold OutBl at hc1
    unfold OutL at hc2
    rw [hq1] at hc1
    rw [hq2] at hc2
    rw [hq3]
    simp only [fnB_len] at hc1
    simp only [fnI_len] at hc2
    have HC1 := Lib.hid hc1
    have HC2 := Lib.hid hc2
    obtain ⟨i0, hi, hz0, hz1, hz2⟩ := info_parts infoIntC
    clear hc1 hc2 hq1 hq2 hq3 HJ H hok hv hd
    go_enter Try.func16, Try.ntmps16
    go_wp2_with (first | (go_at_call 34; (refine (HC2.out _ (((Keeps.refl w).alloc _).trans K2.out)).mono ?_); rintro e w3 ⟨ao3, cap3, b3, o3, rfl, hs3, hk3⟩; have HS3 := Lib.hid hs3; have HS23 := Lib.hid (HS2.out.keeps hk3); have K3 := Lib.hid (K2.out.trans hk3); have hc3 := hs3.cap; have hl3 := hs3.le; clear hs3 hk3 g0 hbg; have g0 := K3.out.cell (p := ⟨w.heap.size, 20, none⟩) (v := .slice ao js.length cap) (by go_simp); have hbg := World.block_lt_of_cell? _ _ g0) | (go_at_call 33; (refine (HC1.out _ ((Keeps.refl w).alloc _)).mono ?_); rintro e w2 ⟨ao2, cap2, b2, o2, rfl, hs2, hk2⟩; have HS2 := Lib.hid hs2; have K2 := Lib.hid hk2; have hc2 := hs2.cap; have hl2 := hs2.le; have g0 := hk2.cell (p := ⟨w.heap.size, 20, none⟩) (v := .slice ao js.length cap) (by go_simp); have hbg := World.block_lt_of_cell? _ _ g0; clear hs2 hk2) | (at_make; refine wpList_makeZ _ rfl _ _ 35 rfl 3 i0 (.int .i64 0) Try.underlying35 hi hz0 hz1 rfl _ _ _ _ js.length rfl rfl rfl rfl (by rw [hz2]; omega) (by omega) ?_))
    have HR0 : Hid (RkW w3 (w3.alloc (Obj.cells (Array.replicate js.length (Value.int IntKind.i64 0)) 3)) js.length (fun _ => 0)) := Lib.hid ⟨by
      rw [← rowI_zero]
      have := RowB.new w3 3 (List.replicate js.length (.int .i64 0))
      simpa using this, (Keeps.refl w3).alloc _⟩
    go_loopw [41] (fun vi wy => ∃ k : Nat, k ≤ js.length ∧ vi = .int .i64 k ∧ Hid (RkW w3 wy js.length (upM (mthE (f0 l day) js) k))) (fun vi _ => js.length - (intOf vi).toNat)
    case atStart => exact ⟨0, Nat.zero_le _, rfl, Lib.hid (HR0.out.congr fun i _ => by unfold upM; rw [if_neg (Nat.not_lt_zero _)])⟩
    case round =>
      obtain ⟨k, hk, rfl, HX⟩ := hrel
      by_cases hlt : k < js.length
      · have c1 := fnB_cell (HS23.out.keeps HX.out.2) k hlt
        have hix1 := (HS23.out.at1 Try.underlying22 Try.sizeOf4 k hlt)
        have c2 := fnI_cell (HS3.out.keeps HX.out.2) k hlt
        have hix2 := (HS3.out.at1 Try.underlying35 Try.sizeOf3 k hlt)
        have hj := HHJ.out.keeps ((((Keeps.refl w).alloc _).trans K3.out).trans HX.out.2)
        have c3 := hj.cell entC_len k hlt 4 _ rfl
        have hix3 := Sl.at hj Try.underlying31 Try.sizeOf66 k hlt
        have g1 := HX.out.2.cell g0
        have hbg1 := World.block_lt_of_cell? _ _ g1
        have c0 := HX.out.1.cell k _ (rowI_get _ _ _ hlt)
        have f0' := HX.out.1.frozen k
        have hb0 := HX.out.1.lt
        have hgd : js.getD k false = js[k] := by simp [List.getD, hlt]
        clear hj
        cases hin : inA (f0 l day) js.length js.length k with
        | true =>
          have HM := Lib.hid (mthE_full hin)
          rw [hin] at c1
          clear hin hgd
          go_wp2_with fail
          go_roundw
          case rel => exact ⟨k + 1, by omega, by go_num, Lib.hid ((HX.out.set k 3).congr fun i _ => upM_step _ k 3 HM.out i)⟩
          case measure => simp [intOf]; omega
        | false =>
          rw [hin] at c1
          obtain ⟨v, hv⟩ : ∃ v, voteK (f0 l day) (inA (f0 l day) js.length js.length) k js.length = v := ⟨_, rfl⟩
          by_cases hv2 : v < 2000
          · have HM := Lib.hid (mthE_none hin (by rw [hv]; exact hv2))
            rw [hv] at c2
            have hv3 : decide (v < 2000) = true := decide_eq_true hv2
            clear hin hgd hv
            go_wp2_with fail
            go_roundw
            case rel => exact ⟨k + 1, by omega, by go_num, Lib.hid ((HX.out.set k 0).congr fun i _ => upM_step _ k 0 HM.out i)⟩
            case measure => simp [intOf]; omega
          · have hv3 : decide (v < 2000) = false := decide_eq_false hv2
            cases hjk : js[k] with
            | true =>
              have HM := Lib.hid (mthE_joint hin (by rw [hv]; exact hv2) (hgd.trans hjk))
              rw [hv] at c2
              rw [hjk] at c3
              clear hin hgd hv hjk
              go_wp2_with fail
              go_roundw
              case rel => exact ⟨k + 1, by omega, by go_num, Lib.hid ((HX.out.set k 2).congr fun i _ => upM_step _ k 2 HM.out i)⟩
              case measure => simp [intOf]; omega
            | false =>
              have HM := Lib.hid (mthE_equity hin (by rw [hv]; exact hv2) (hgd.trans hjk))
              rw [hv] at c2
              rw [hjk] at c3
              clear hin hgd hv hjk
              go_wp2_with fail
              go_roundw
              case rel => exact ⟨k + 1, by omega, by go_num, Lib.hid ((HX.out.set k 1).congr fun i _ => upM_step _ k 1 HM.out i)⟩
              case measure => simp [intOf]; omega
      · obtain rfl : k = js.length := by omega
        have HZ := Lib.hid (HX.out.congr (ψ := mthE (f0 l day) js) fun i hi => by unfold upM; rw [if_pos hi])
        go_wp2_with fail
        go_ret2
        refine ⟨some ⟨w3.heap.size, 0, none⟩, js.length, w3.heap.size, 0, by simp only [fnI_len]; rfl, ?_, ((Keeps.refl w).alloc _).trans (K3.out.trans HZ.out.2)⟩
        simp only [fnI_len]
        exact HZ.out.1.slI (by omega)
  · unfold OutBl at hc1
    rw [hq1] at hc1
    rw [hq3]
    have HC1 := Lib.hid hc1
    have e2 : (!(re == 0)) = true := by simpa using h0
    clear hc1 hc2 hq1 hq2 hq3 HJ H hok
    go_enter Try.func16, Try.ntmps16
    go_wp2_with (go_at_call 33; (refine (HC1.out _ ((Keeps.refl w).alloc _)).mono ?_); rintro e w2 ⟨ao2, cap2, b2, o2, rfl, hs2, hk2⟩; have HS2 := Lib.hid hs2; have K2 := Lib.hid hk2; have hc2 := hs2.cap; have hl2 := hs2.le; have g0 := hk2.cell (p := ⟨w.heap.size, 20, none⟩) (v := .slice ao js.length cap) (by go_simp); have hbg := World.block_lt_of_cell? _ _ g0; clear hs2 hk2)
    go_ret2
    exact ⟨none, 0, 0, 0, rfl, Sl.nil _ _, ((Keeps.refl w).alloc _).trans K2.out⟩
set_option maxRecDepth 100000 in
set_option maxHeartbeats 4000000 in
theorem met_any (js : List Bool) (l : List Hol) (en day : Int) (ao : Option Addr) (cap b o : Nat) (aol : Option Addr) (capl bl ol : Nat) (w : World) (HJ : Ents w ao js cap b o) (H : Hols w aol l capl bl ol) (hlen : l.length ≤ 900) (hok : ∀ x ∈ l, x.Ok) :
    Calls Try.prog 19 #[.agg #[.string ⟨#[]⟩, .int .i64 0, .int .i64 0, .int .i64 0, .slice none 0 0, .int .i64 0, .int .i64 0, .int .i64 0, .int .i64 0, .int .i64 0, .int .i64 0, .int .i64 0, .int .i64 0, .int .i64 0, .int .i64 0, .int .i64 0, .int .i64 0, .int .i64 0, .int .i64 0, .int .i64 0, .slice ao js.length cap], .slice aol l.length capl, .int .i64 en, .int .i64 day] w fun e w' => e = .returned (.tuple #[.int .i64 (matR' js l en day).1, .int .i64 (matR' js l en day).2]) ∧ Keeps w w' := by
  have hall := fun W (hk : Keeps w W) => all_any js l day ao cap b o aol capl bl ol W (HJ.keeps hk) (H.keeps hk) hlen hok
  have hcap := Sl.cap HJ
  have hle := Sl.le HJ
  have hload := (RowB.new w 33 (grpC (.slice ao js.length cap))).range
  obtain ⟨⟨rl, re⟩, hr⟩ : ∃ r, methR js l day = r := ⟨_, rfl⟩
  have hall0 := hall
  rw [hr] at hall
  have HALL : Hid (∀ W, Keeps w W → Calls Try.prog 16 #[.agg #[.string ⟨#[]⟩, .int .i64 0, .int .i64 0, .int .i64 0, .slice none 0 0, .int .i64 0, .int .i64 0, .int .i64 0, .int .i64 0, .int .i64 0, .int .i64 0, .int .i64 0, .int .i64 0, .int .i64 0, .int .i64 0, .int .i64 0, .int .i64 0, .int .i64 0, .int .i64 0, .int .i64 0, .slice ao js.length cap], .slice aol l.length capl, .int .i64 day] W fun e w' => ∃ ao cap b o, e = .returned (.tuple #[.slice ao rl.length cap, .int .i64 re]) ∧ Sl w' 1 ao rl.length cap b o (rl.map (.int .i64)) ∧ Keeps W w') := Lib.hid hall
  clear hall hall0
  by_cases h0 : re = 0
  · subst h0
    have hrl : rl = fnI (mthE (f0 l day) js) js.length := by
      rcases meth_cases js l day with ⟨_, _, _, _, _, _, hq⟩ | ⟨re, h1, _, _, hq⟩
      · rw [hq] at hr; simpa using hr.symm
      · rw [hq] at hr; simp at hr; exact absurd hr.2 h1
    subst hrl
    simp only [fnI_len] at HALL
    by_cases he : 0 ≤ en ∧ en < (js.length : Int)
    · have HQ : Hid (matR' js l en day = (mthE (f0 l day) js en.toNat, 0)) := Lib.hid (by unfold matR'; rw [hr, if_pos rfl, if_pos he])
      obtain ⟨k, rfl⟩ : ∃ k : Nat, en = (k : Int) := ⟨en.toNat, by omega⟩
      have hkl : k < js.length := by omega
      have e1 : decide ((k : Int) < 0) = false := decide_eq_false (by omega)
      have e2 : decide ((js.length : Int) ≤ (k : Int)) = false := decide_eq_false (by omega)
      clear hr HJ H he
      go_enter Try.func19, Try.ntmps19
      go_wp2_with (first | (refine wpList_load_mid rfl 33 _ rfl w.heap.size 0 rfl (grpC (.slice ao js.length cap)) _ hload Try.underlying33 rfl groupSize ?_) | (go_at_call 16; (refine (HALL.out _ ((Keeps.refl w).alloc _)).mono ?_); rintro e w2 ⟨ao2, cap2, b2, o2, rfl, hs2, hk2⟩; have c0 := fnI_cell hs2 k hkl; have hix := (hs2.at1 Try.underlying35 Try.sizeOf3 k hkl); have hc2 := hs2.cap; have hl2 := hs2.le; have K2 := Lib.hid hk2; clear hs2 hk2))
      go_ret2
      rw [HQ.out, Int.toNat_natCast]
      exact ⟨rfl, ((Keeps.refl w).alloc _).trans K2.out⟩
    · have HQ : Hid (matR' js l en day = (0, 2)) := Lib.hid (by unfold matR'; rw [hr, if_pos rfl, if_neg he])
      by_cases hn : en < 0
      · have e1 : decide (en < 0) = true := decide_eq_true hn
        clear hr HJ H he
        go_enter Try.func19, Try.ntmps19
        go_wp2_with (first | (refine wpList_load_mid rfl 33 _ rfl w.heap.size 0 rfl (grpC (.slice ao js.length cap)) _ hload Try.underlying33 rfl groupSize ?_) | (go_at_call 16; (refine (HALL.out _ ((Keeps.refl w).alloc _)).mono ?_); rintro e w2 ⟨ao2, cap2, b2, o2, rfl, hs2, hk2⟩; have K2 := Lib.hid hk2; clear hs2 hk2))
        go_ret2
        rw [HQ.out]
        exact ⟨rfl, ((Keeps.refl w).alloc _).trans K2.out⟩
      · have e1 : decide (en < 0) = false := decide_eq_false hn
        have e2 : decide ((js.length : Int) ≤ en) = true := decide_eq_true (by omega)
        clear hr HJ H he
        go_enter Try.func19, Try.ntmps19
        go_wp2_with (first | (refine wpList_load_mid rfl 33 _ rfl w.heap.size 0 rfl (grpC (.slice ao js.length cap)) _ hload Try.underlying33 rfl groupSize ?_) | (go_at_call 16; (refine (HALL.out _ ((Keeps.refl w).alloc _)).mono ?_); rintro e w2 ⟨ao2, cap2, b2, o2, rfl, hs2, hk2⟩; have K2 := Lib.hid hk2; clear hs2 hk2))
        go_ret2
        rw [HQ.out]
        exact ⟨rfl, ((Keeps.refl w).alloc _).trans K2.out⟩
  · have HQ : Hid (matR' js l en day = (0, re)) := Lib.hid (by unfold matR'; rw [hr, if_neg h0])
    have e3 : (!(re == 0)) = true := by simpa using h0
    clear hr HJ H
    go_enter Try.func19, Try.ntmps19
    go_wp2_with (first | (refine wpList_load_mid rfl 33 _ rfl w.heap.size 0 rfl (grpC (.slice ao js.length cap)) _ hload Try.underlying33 rfl groupSize ?_) | (go_at_call 16; (refine (HALL.out _ ((Keeps.refl w).alloc _)).mono ?_); rintro e w2 ⟨ao2, cap2, b2, o2, rfl, hs2, hk2⟩; have K2 := Lib.hid hk2; clear hs2 hk2))
    go_ret2
    rw [HQ.out]
    exact ⟨rfl, ((Keeps.refl w).alloc _).trans K2.out⟩
end Go.Proofs.Ytkpdimbblcmnaaa
