/- Split of the program for a negative total, and with an error: the walks. -/
import Derived.Test.YtppjjmjdiccloaaSplitW
import Derived.Test.YtppjjmjdiccloaaStab
namespace Go.Proofs.Ytppjjmjdiccloaa
open Go.RowKit

set_option maxHeartbeats 1000000 in
theorem split_err (total : Int) (ws : List Int) (ao : Option Addr) (cap b o : Nat) (w : World) (H : Sl w 1 ao ws.length cap b o (ws.map (.int .i64))) (he : (wholeS total ws).2 ≠ 0) :
    Calls Try.prog 12 #[.int .i64 total, .slice ao ws.length cap] w fun e w' => SplitPost w total ws e w' := by
  have HP : Hid (∀ e w', OutL w [] (wholeS total ws).2 e w' → SplitPost w total ws e w') := by
    intro e w' h
    rw [SplitPost, if_neg he]
    exact h
  have hb : ((wholeS total ws).2 != 0) = true := by simp [he]
  clear he
  go_enter Try.func12, Try.ntmps12
  go_wp2_with (go_at_call 22; refine (whole_any _ ws ao cap b o _ (H.keeps ((Keeps.refl w).alloc _))).mono ?_; rintro e w' ⟨rfl, rfl⟩)
  go_ret2
  exact HP.out _ _ ⟨none, 0, 0, 0, rfl, Sl.nil _ _, ((Keeps.refl w).alloc _).alloc _⟩

/-- The places before k negated. -/
def negTo (f : Nat → Int) (k : Nat) : Nat → Int := fun v => if v < k then -f v else f v

set_option maxHeartbeats 1000000 in
theorem split_neg (total : Int) (ws : List Int) (ao : Option Addr) (cap b o : Nat) (w : World) (H : Sl w 1 ao ws.length cap b o (ws.map (.int .i64))) (HSS : Hid (SortSaid ws.length)) (he : (wholeS total ws).2 = 0) (hneg : total < 0) :
    Calls Try.prog 12 #[.int .i64 total, .slice ao ws.length cap] w fun e w' => SplitPost w total ws e w' := by
  obtain ⟨hW, hE⟩ := wholeS_ok he
  have hE1 : (wholeS total ws).1 = lsum ws := by rw [hE]
  have ht := amt_true.1 hW.ht
  have ht2 : -total ≤ 1000000000000 := by omega
  have hs1 := hW.hs
  have hs2 := hW.hs2
  have hl1 := hW.h1
  have hl2 := hW.h2
  have hsg : sgn total total = -total := by rw [sgn, if_pos hneg]
  have HP : Hid (∀ e w', (∃ d, Srt (rst (-total) (lsum ws) ws) d 0 ws.length ∧ Same 0 ws.length (fun k => (k : Int)) d ∧ OutL w (splitL total ws d) 0 e w') → SplitPost w total ws e w') := by
    intro e w' h
    rw [SplitPost, if_pos he, hsg]
    exact h
  obtain ⟨i0, hi, hz0, hz1, hz2⟩ := info_parts infoInt'
  have HW := Lib.hid hW
  clear hE hW hsg
  go_enter Try.func12, Try.ntmps12
  go_wp2_with (first | (go_at_call 22; refine (whole_any _ ws ao cap b o _ (H.keeps ((Keeps.refl w).alloc _))).mono ?_; rintro e w' ⟨rfl, rfl⟩) | (at_make; refine wpList_make_full _ rfl (.tmp 31) (.tmp 31) 22 rfl (w.heap.size + 3) 3 i0 (.int .i64 0) 1 Try.underlying22 hi hz0 hz1 _ _ _ _ ws.length rfl rfl rfl rfl ?b1 ?b2 ?b3 ?_))
  case b1 => rw [hz2]; omega
  case b2 => unfold maxLen; omega
  case b3 => simp; try omega
  intro w1 hown1 hgrow1
  have k1 : Keeps w w1 := ((((Keeps.refl w).alloc _).alloc _).alloc _).trans ((Keeps.refl _).grown hgrow1 (Nat.le_refl _) (fun j hj => by cases hj))
  have cw1 : w1.cell? ⟨w.heap.size, 0, none⟩ = some (.slice ao ws.length cap) := hgrow1.cell (three_0 w _ _ _ _ _ _) (fun e => by cases e)
  have cs1 : w1.cell? ⟨w.heap.size + 1, 0, none⟩ = some (.int .i64 (lsum ws)) := hgrow1.cell (three_1 w _ _ _ _ _ _) (fun e => by cases e)
  have ca1 : w1.cell? ⟨w.heap.size + 1 + 1, 0, none⟩ = some (.int .i64 (-total)) := hgrow1.cell (three_2 w _ _ _ _ _ _) (fun e => by cases e)
  have o1 := Ord.made hown1
  have sz1 : w.heap.size + 1 + 1 + 1 < w1.heap.size := World.block_lt_of_cell? w1 _ (o1 0 (by omega)).1
  have hid1 := Lib.hid (show Keeps w w1 ∧ Ord w1 (w.heap.size + 1 + 1 + 1) ws.length (fun _ => 0) from ⟨k1, o1⟩)
  clear k1 o1 hown1 hgrow1
  go_wp2_with (at_make; refine wpList_make_full _ rfl (.tmp 34) (.tmp 34) 22 rfl (w.heap.size + 3) 3 i0 (.int .i64 0) 1 Try.underlying22 hi hz0 hz1 _ _ _ _ ws.length rfl rfl rfl rfl ?b4 ?b5 ?b6 ?_)
  case b4 => rw [hz2]; omega
  case b5 => unfold maxLen; omega
  case b6 => omega
  intro w2 hown2 hgrow2
  have s2 : SpW w w2 (w.heap.size + 1 + 1 + 1) w1.heap.size (-total) (lsum ws) ao ws.length cap (fun _ => 0) (fun _ => 0) :=
    ⟨hid1.out.1.trans ((Keeps.refl _).grown hgrow2 (Nat.le_refl _) (fun j hj => by cases hj)), hgrow2.cell cw1 (fun e => by cases e), hgrow2.cell cs1 (fun e => by cases e), hgrow2.cell ca1 (fun e => by cases e), hid1.out.2.only hgrow2 (fun e => by cases e), Ord.made hown2, by omega, by omega⟩
  have cw2 := s2.cw
  have ca2 := s2.ca
  have S2 := Lib.hid s2
  clear s2 hid1 hown2 hgrow2 cw1 cs1 ca1
  go_wp2_with fail
  have hB := lef_bd (abs := -total) (ws := ws) (by omega) HW.out.w hs1 hl1
  have HB := Lib.hid hB
  clear hB cw2 ca2
  go_loopw [11, 39] (fun lf i wr => ∃ k : Nat, k ≤ ws.length ∧ i = .int .i64 k ∧ lf = .int .i64 (lef (-total) (lsum ws) ws k) ∧ Hid (SpW w wr (w.heap.size + 1 + 1 + 1) w1.heap.size (-total) (lsum ws) ao ws.length cap (basTo (-total) (lsum ws) ws k) (idTo k))) (fun _ i _ => ws.length - (intOf i).toNat)
  case atStart =>
    refine ⟨0, Nat.zero_le _, rfl, by simp [lef, sumTo], ?_⟩
    have := S2.out
    exact ⟨this.kp, this.cw, this.cs, this.ca, this.o1.congr fun v _ => by simp [basTo], this.o2.congr fun v _ => by simp [idTo], this.hg, this.hh⟩
  case round =>
    clear S2
    obtain ⟨k, hk, rfl, rfl, SW⟩ := hrel
    by_cases hlt : k < ws.length
    · have HSl := H.keeps SW.out.kp
      have hix := HSl.at1 Try.underlying22 Try.sizeOf3 k hlt
      have hcell := HSl.int k hlt
      have hgk := SW.out.hg
      have hhk := SW.out.hh
      have hne : w.heap.size + 1 + 1 + 1 ≠ w1.heap.size := by omega
      have hc1 := (SW.out.o1 k hlt).1
      have hf1 := (SW.out.o1 k hlt).2
      have hc2 := (SW.out.o2 k hlt).1
      have hf2 := (SW.out.o2 k hlt).2
      have ca := SW.out.ca
      have cs := SW.out.cs
      have hw := HW.out.w _ (List.getElem_mem hlt)
      have hmul : 0 ≤ -total * ws[k] ∧ -total * ws[k] ≤ 1000000000000000000 := ⟨Int.mul_nonneg (by omega) hw.1, by
        have := Int.mul_le_mul ht2 hw.2 hw.1 (by omega)
        omega⟩
      have hl0 := HB.out.2.2 k hk
      have hl3 := HB.out.2.2 (k + 1) (by omega)
      have eb : bas (-total) (lsum ws) ws k = -total * ws[k] / lsum ws := by unfold bas; rw [List.getD_eq_getElem?_getD, List.getElem?_eq_getElem hlt]; rfl
      have el : lef (-total) (lsum ws) ws (k + 1) = lef (-total) (lsum ws) ws k - -total * ws[k] / lsum ws := by rw [← eb]; unfold lef; rw [sumTo]; omega
      have EB := Lib.hid eb
      have EL := Lib.hid el
      rw [el] at hl3
      have SR := Lib.hid SW.out.round
      clear eb el hw SW
      go_wp2
      go_roundw
      case rel => exact ⟨k + 1, by omega, by go_num, by rw [EL.out], by have := SR.out; rw [EB.out] at this; exact this⟩
      case measure => simp [intOf]; omega
    · obtain rfl : k = ws.length := by omega
      obtain ⟨L, hL⟩ := Int.eq_ofNat_of_zero_le HB.out.1
      have hLn : L < ws.length := by have := HB.out.2.1; omega
      have hbw : b < w.heap.size := World.block_lt_of_cell? w ⟨b, o + 0, none⟩ (H.int 0 (by omega))
      have hgk := SW.out.hg
      have hhk := SW.out.hh
      have hss : SS wr wr w1.heap.size ws.length (w.heap.size + 1 + 1) w.heap.size (w.heap.size + 1) (-total) (lsum ws) ws ao cap b o (fun k => (k : Int)) :=
        ⟨⟨SW.out.ca, SW.out.cw, SW.out.cs, H.keeps SW.out.kp, by omega, by omega, by omega, by omega⟩, World.grownBy.refl _ _, SW.out.o2.congr (fun v hv => by unfold idTo; rw [if_pos hv]), by omega, hs1, HW.out.w, rfl, fun i hi => by omega⟩
      have HC := Lib.hid (HSS.out wr wr w1.heap.size (w.heap.size + 1 + 1) w.heap.size (w.heap.size + 1) (-total) (lsum ws) ws ao cap b o (fun k => (k : Int)) ws.length hss (fun _ _ => rfl))
      have KP := Lib.hid SW.out.kp
      have O1 := Lib.hid SW.out.o1
      clear hss SW
      rw [hL]
      have HLL := Lib.hid hL
      clear hL
      go_wp2_with (go_at_call 23; refine HC.out.mono ?_; rintro e w3 ⟨rfl, d, hs3, hsrt, hsame⟩; have HS3 := Lib.hid hs3; have HSRT := Lib.hid hsrt; have HSAME := Lib.hid hsame; clear hs3 hsrt hsame)
      have kp3 : Keeps w w3 := KP.out.grown HS3.out.on KP.out.size (fun j hj => by cases hj; omega)
      have o13 : Ord w3 (w.heap.size + 1 + 1 + 1) ws.length (part (-total) (lsum ws) ws d 0) :=
        (O1.out.only HS3.out.on (by simp; omega)).congr (fun v hv => by rw [part_zero]; unfold basTo; rw [if_pos hv])
      have hr0 : Keeps w w3 ∧ Ord w3 (w.heap.size + 1 + 1 + 1) ws.length (part (-total) (lsum ws) ws d 0) ∧ Ord w3 w1.heap.size ws.length d := ⟨kp3, o13, HS3.out.row⟩
      have HR0 := Lib.hid hr0
      have HIN := Lib.hid HS3.out.inr
      clear hr0 o13 kp3 HS3 O1 KP HC
      go_loopw [70] (fun i wr => ∃ t : Nat, t ≤ L ∧ i = .int .i64 t ∧ Hid (Keeps w wr ∧ Ord wr (w.heap.size + 1 + 1 + 1) ws.length (part (-total) (lsum ws) ws d t) ∧ Ord wr w1.heap.size ws.length d)) (fun i _ => L - (intOf i).toNat)
      case atStart => exact ⟨0, Nat.zero_le _, rfl, HR0.out⟩
      case round =>
        clear HR0
        obtain ⟨t, htL, rfl, HR⟩ := hrel
        by_cases hlt2 : t < L
        · obtain ⟨v, hv⟩ := Int.eq_ofNat_of_zero_le (HIN.out t (by omega)).1
          have hvn : v < ws.length := by have := (HIN.out t (by omega)).2; omega
          have hc2 : wr.cell? ⟨w1.heap.size, t, none⟩ = some (.int .i64 (v : Int)) := by rw [← hv]; exact (HR.out.2.2 t (by omega)).1
          have hc1 := (HR.out.2.1 v hvn).1
          have hf1 := (HR.out.2.1 v hvn).2
          have hpb := part_bd (ws := ws) (show 0 ≤ -total by omega) ht2 hs1 HW.out.w d t v
          have HV := Lib.hid hv
          have HRN : Hid (Keeps w (wr.setCell ⟨w.heap.size + 1 + 1 + 1, v, none⟩ (.int .i64 (part (-total) (lsum ws) ws d t v + 1))) ∧ Ord (wr.setCell ⟨w.heap.size + 1 + 1 + 1, v, none⟩ (.int .i64 (part (-total) (lsum ws) ws d t v + 1))) (w.heap.size + 1 + 1 + 1) ws.length (part (-total) (lsum ws) ws d (t + 1)) ∧ Ord (wr.setCell ⟨w.heap.size + 1 + 1 + 1, v, none⟩ (.int .i64 (part (-total) (lsum ws) ws d t v + 1))) w1.heap.size ws.length d) :=
            ⟨Below.setCell HR.out.1 (by show _ ≤ w.heap.size + 1 + 1 + 1; omega) _, (HR.out.2.1.store v _).congr (fun k hk => (part_step (-total) (lsum ws) ws HSRT.out (show t < ws.length by omega) hv k).symm), HR.out.2.2.storeOther (by show w.heap.size + 1 + 1 + 1 ≠ _; omega) _⟩
          clear hv HR
          go_wp2
          go_roundw
          case rel => exact ⟨t + 1, by omega, by go_num, HRN.out⟩
          case measure => simp [intOf]; omega
        · obtain rfl : t = L := by omega
          have HR0 : Hid (Keeps w wr ∧ Ord wr (w.heap.size + 1 + 1 + 1) ws.length (negTo (part (-total) (lsum ws) ws d t) 0)) := ⟨HR.out.1, HR.out.2.1.congr fun v _ => by rw [negTo, if_neg (by omega)]⟩
          clear HR
          go_wp2
          go_loopw [85] (fun i wr => ∃ k : Nat, k ≤ ws.length ∧ i = .int .i64 k ∧ Hid (Keeps w wr ∧ Ord wr (w.heap.size + 1 + 1 + 1) ws.length (negTo (part (-total) (lsum ws) ws d t) k))) (fun i _ => ws.length - (intOf i).toNat)
          case atStart => exact ⟨0, Nat.zero_le _, rfl, HR0.out⟩
          case round =>
            clear HR0
            obtain ⟨k, hk, rfl, HR⟩ := hrel
            by_cases hlt3 : k < ws.length
            · have hc1 := (HR.out.2 k hlt3).1
              have hf1 := (HR.out.2 k hlt3).2
              have hpb := part_bd (ws := ws) (show 0 ≤ -total by omega) ht2 hs1 HW.out.w d t k
              have hng : negTo (part (-total) (lsum ws) ws d t) k k = part (-total) (lsum ws) ws d t k := by rw [negTo, if_neg (by omega)]
              rw [hng] at hc1
              have HRN : Hid (Keeps w (wr.setCell ⟨w.heap.size + 1 + 1 + 1, k, none⟩ (.int .i64 (-part (-total) (lsum ws) ws d t k))) ∧ Ord (wr.setCell ⟨w.heap.size + 1 + 1 + 1, k, none⟩ (.int .i64 (-part (-total) (lsum ws) ws d t k))) (w.heap.size + 1 + 1 + 1) ws.length (negTo (part (-total) (lsum ws) ws d t) (k + 1))) :=
                ⟨Below.setCell HR.out.1 (by show _ ≤ w.heap.size + 1 + 1 + 1; omega) _, (HR.out.2.store k _).congr (fun v hv => by
                  unfold upd negTo
                  by_cases h1 : v = k
                  · subst h1; rw [if_pos rfl, if_pos (by omega)]
                  · rw [if_neg h1]
                    by_cases h2 : v < k
                    · rw [if_pos h2, if_pos (by omega)]
                    · rw [if_neg h2, if_neg (by omega)])⟩
              clear hng HR
              go_wp2
              go_roundw
              case rel => exact ⟨k + 1, by omega, by go_num, HRN.out⟩
              case measure => simp [intOf]; omega
            · obtain rfl : k = ws.length := by omega
              go_wp2
              go_ret2
              refine HP.out _ _ ⟨d, HSRT.out, HSAME.out, ?_⟩
              rw [splitL_neg (show total < 0 by omega) HLL.out]
              have hs := (HR.out.2.congr (fun v hv => show _ = -part (-total) (lsum ws) ws d t v by rw [negTo, if_pos hv])).sl (by omega)
              refine ⟨some ⟨w.heap.size + 1 + 1 + 1, 0, none⟩, ws.length, w.heap.size + 1 + 1 + 1, 0, ?_, ?_, HR.out.1⟩
              · rw [List.length_map, List.length_range]; rfl
              · rw [List.length_map, List.length_range]; exact hs

theorem split_any (total : Int) (ws : List Int) (ao : Option Addr) (cap b o : Nat) (w : World) (H : Sl w 1 ao ws.length cap b o (ws.map (.int .i64))) :
    Calls Try.prog 12 #[.int .i64 total, .slice ao ws.length cap] w fun e w' => SplitPost w total ws e w' := by
  by_cases he : (wholeS total ws).2 = 0
  · have hs : Hid (SortSaid ws.length) := sort_any _ (by have := (wholeS_ok he).1.h2; omega)
    by_cases hn : total < 0
    · exact split_neg total ws ao cap b o w H hs he hn
    · exact split_pos total ws ao cap b o w H hs he hn
  · exact split_err total ws ao cap b o w H he
end Go.Proofs.Ytppjjmjdiccloaa
