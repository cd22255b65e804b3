/- The reference's Split: the walk, for a given order of the places. -/
import Derived.Test.YtppjjmjdiccloaaRSplitP
import Derived.Test.YtppjjmjdiccloaaApp2
import Derived.Test.YtppjjmjdiccloaaCheck
import Derived.Test.YtppjjmjdiccloaaSplitN
import Derived.Test.YtppjjmjdiccloaaRunR
namespace Go.Proofs.Ytppjjmjdiccloaa
open Go.RowKit

theorem Ord.own {w : World} {base e n : Nat} {v : Value} {f : Nat → Int} (h : w.ownsRow base e 1 v n (((List.range n).map f).map (.int .i64))) (hn : 1 ≤ n) :
    ∃ g cap, v = .slice (some ⟨g, 0, none⟩) n cap ∧ v.ownBlock = some g ∧ base ≤ g ∧ n ≤ cap ∧ cap ≤ 9223372036854775807 ∧ Ord w g n f := by
  have hc := fun g (hg : v.ownBlock = some g) => h.cells hg
  rcases h.2 with ⟨_, h0⟩ | ⟨g, cap, cur, rfl, hb, hg, h1, h2, _⟩
  · omega
  · refine ⟨g, cap, rfl, rfl, hb, h1, by unfold maxLen at h2; exact h2, fun i hi => ⟨?_, ?_⟩⟩
    · have := hc g rfl i (.int .i64 (f i)) (by simp [hi])
      rwa [Addr.add_lit, Nat.zero_add] at this
    · simp [World.frozen?, hg]

theorem Sl.cap_up {w : World} {sz : Nat} {ad : Addr} {n c c' b o : Nat} {cs : List Value} (h : Sl w sz (some ad) n c b o cs) (h1 : n ≤ c') (h2 : c' ≤ 9223372036854775807) : Sl w sz (some ad) n c' b o cs :=
  ⟨h.len, h1, (fun h => by cases h), h2, h.addr, h.cell⟩
/-- A new row of n ints that may be written, and no error. -/
def OutO (w : World) (n : Nat) (f : Nat → Int) (e : Ending) (w' : World) : Prop :=
  ∃ g c, e = .returned (.tuple #[.slice (some ⟨g, 0, none⟩) n c, .int .i64 0]) ∧ w.heap.size ≤ g ∧ n ≤ c ∧ c ≤ 9223372036854775807 ∧ Ord w' g n f ∧ Keeps w w'
theorem OutO.outL {w w' : World} {n : Nat} {f : Nat → Int} {e : Ending} (h : OutO w n f e w') : OutL w ((List.range n).map f) 0 e w' := by
  obtain ⟨g, c, rfl, h1, h2, h3, h4, h5⟩ := h
  refine ⟨some ⟨g, 0, none⟩, c, g, 0, ?_, ?_, h5⟩
  · rw [List.length_map, List.length_range]
  · rw [List.length_map, List.length_range]; exact (h4.sl (by omega)).cap_up h2 h3
/-- What the rounds keep: what has been appended. -/
def RSRel (w : World) (base : Nat) (total : Int) (ws : List Int) (vo vr vl vi : Value) (wr : World) : Prop :=
  ∃ k : Nat, k ≤ ws.length ∧ vi = .int .i64 k ∧ vl = .int .i64 (lef total (lsum ws) ws k) ∧ Hid (Keeps w wr ∧ wr.ownsRow base 3 1 vo k (((List.range k).map (bas total (lsum ws) ws)).map (.int .i64)) ∧ wr.ownsRow base 3 1 vr k (((List.range k).map (rsn total (lsum ws) ws)).map (.int .i64)) ∧ Sep vo vr)

set_option maxRecDepth 100000 in
set_option maxHeartbeats 1000000 in
theorem rsplit_pos (total : Int) (ws : List Int) (d : Nat → Int) (ao : Option Addr) (cap b o : Nat) (w : World) (H : Sl w 1 ao ws.length cap b o (ws.map (.int .i64))) (he : (wholeS total ws).2 = 0) (hneg : ¬ total < 0)
    (hs : Srt (rst total (lsum ws) ws) d 0 ws.length) (hm : Same 0 ws.length (fun k => (k : Int)) d) :
    Calls Try.prog 13 #[.int .i64 total, .slice ao ws.length cap] w fun e w' => OutO w ws.length (part total (lsum ws) ws d (lef total (lsum ws) ws ws.length).toNat) e w' := by
  obtain ⟨hW, hE⟩ := wholeS_ok he
  have hE1 : (wholeS total ws).1 = lsum ws := by rw [hE]
  have ht := amt_true.1 hW.ht
  have hs1 := hW.hs
  have hs2 := hW.hs2
  have hl1 := hW.h1
  have hl2 := hW.h2
  have HW := Lib.hid hW
  have HSRT := Lib.hid hs
  have HSAME := Lib.hid hm
  have hcap := H.cap
  have hle := H.le
  have hB := lef_bd (abs := total) (ws := ws) (by omega) HW.out.w hs1 hl1
  have HB := Lib.hid hB
  clear hE hW hs hm hB
  go_enter Try.func13, Try.ntmps13
  go_wp2_with (go_at_call 26; refine (rcheck_any _ ws ao cap b o _ H).mono ?_; rintro e w' ⟨rfl, rfl⟩)
  go_loopw [11, 12, 13, 14] (RSRel w w.heap.size total ws) (fun _ _ _ i _ => ws.length - (intOf i).toNat)
  case atStart => exact ⟨0, Nat.zero_le _, rfl, by simp [lef, sumTo], Keeps.refl _, World.ownsRow_nil _ _ _ _, World.ownsRow_nil _ _ _ _, Sep.nil _⟩
  case round =>
    obtain ⟨k, hk, rfl, rfl, HR⟩ := hrel
    by_cases hlt : k < ws.length
    · have HSl := H.keeps HR.out.1
      have hix := HSl.at1 Try.underlying22 Try.sizeOf3 k hlt
      have hcell := HSl.int k hlt
      have hw := HW.out.w _ (List.getElem_mem hlt)
      have hmul : 0 ≤ total * ws[k] ∧ total * ws[k] ≤ 1000000000000000000 := ⟨Int.mul_nonneg (by omega) hw.1, by
        have := Int.mul_le_mul ht.2 hw.2 hw.1 (by omega)
        omega⟩
      have hl0 := HB.out.2.2 k hk
      have hl3 := HB.out.2.2 (k + 1) (by omega)
      have eb : bas total (lsum ws) ws k = total * ws[k] / lsum ws := by unfold bas; rw [List.getD_eq_getElem?_getD, List.getElem?_eq_getElem hlt]; rfl
      have er : rsn total (lsum ws) ws k = total * ws[k] % lsum ws := by unfold rsn; rw [List.getD_eq_getElem?_getD, List.getElem?_eq_getElem hlt]; rfl
      have el : lef total (lsum ws) ws (k + 1) = lef total (lsum ws) ws k - total * ws[k] / lsum ws := by rw [← eb]; unfold lef; rw [sumTo]; omega
      have EB := Lib.hid eb
      have ER := Lib.hid er
      have EL := Lib.hid el
      rw [el] at hl3
      have hq0 : 0 ≤ total * ws[k] / lsum ws := Int.ediv_nonneg hmul.1 (by omega)
      have hlk : ∀ f : Nat → Int, ((List.range k).map f).length = k := fun f => by simp
      have HLS := Lib.hid HSl
      clear eb er el hw HSl
      go_wp2_with (at_builtin; go_loud (refine wpList_app2 elemInt rfl _ _ rfl w _ _ _ rfl w.heap.size HR.out.2.1 HR.out.1 ?c0 _ _ _ HR.out.2.2.1 (by exact HR.out.2.2.2.symm) [.int .i64 (total * ws[k] / lsum ws)] 1 rfl rfl ?c2 ?c3 ?c4 ?_))
      case c0 => exact HR.out.1.size
      case c2 => intro u hu; simp at hu; subst hu; rfl
      case c3 => omega
      case c4 => omega
      intro v3 w3 hown3 hown3r hsep3 hb3 hsz3
      have hcell3 := (H.keeps hb3).int k hlt
      go_wp2_with (at_builtin; go_loud (refine wpList_app2 elemInt rfl _ _ rfl w _ _ _ rfl w.heap.size hown3r hb3 hsz3 _ _ _ hown3 (by exact hsep3.symm) [.int .i64 (total * ws[k] % lsum ws)] 1 rfl rfl ?c5 ?c6 ?c7 ?_))
      case c5 => intro u hu; simp at hu; subst hu; rfl
      case c6 => omega
      case c7 => omega
      intro v4 w4 hown4 hown4o hsep4 hb4 hsz4
      have R4 : Hid (Keeps w w4 ∧ w4.ownsRow w.heap.size 3 1 v3 (k + 1) (((List.range (k + 1)).map (bas total (lsum ws) ws)).map (.int .i64)) ∧ w4.ownsRow w.heap.size 3 1 v4 (k + 1) (((List.range (k + 1)).map (rsn total (lsum ws) ws)).map (.int .i64)) ∧ Sep v3 v4) := by
        refine ⟨hb4, ?_, ?_, hsep4⟩
        · rw [List.range_succ, List.map_append, List.map_append]
          simp only [List.map_cons, List.map_nil]
          rw [EB.out, List.map_map]
          exact hown4o
        · rw [List.range_succ, List.map_append, List.map_append]
          simp only [List.map_cons, List.map_nil]
          rw [ER.out, List.map_map]
          exact hown4
      obtain ⟨ao3, cap3, b3, rfl, hs3⟩ := Sl.own R4.out.2.1
      have hix3 := hs3.at1 Try.underlying22 Try.sizeOf3 k (by omega)
      have hcl3 : w4.cell? ⟨b3, k, none⟩ = some (.int .i64 (total * ws[k] / lsum ws)) := by
        have := hs3.cell k (.int .i64 (bas total (lsum ws) ws k)) (by simp)
        rw [EB.out, Nat.zero_add] at this
        exact this
      clear hown4 hown4o hb4 hsep4 hown3 hown3r hb3 hsep3 HR hs3 hcell hcell3 hix HLS
      go_wp2_with fail
      go_roundw
      case rel => exact ⟨k + 1, by omega, by go_num, by rw [EL.out], R4.out⟩
      case measure => simp [intOf]; omega
    · obtain rfl : k = ws.length := by omega
      obtain ⟨L, hL⟩ := Int.eq_ofNat_of_zero_le HB.out.1
      have hLn : L < ws.length := by have := HB.out.2.1; omega
      obtain ⟨g1, c1, rfl, e1, hg1, hc1a, hc1b, o1⟩ := Ord.own HR.out.2.1 hl1
      obtain ⟨g2, c2, rfl, e2, hg2, hc2a, hc2b, o2⟩ := Ord.own HR.out.2.2.1 hl1
      have hne : g1 ≠ g2 := by
        rcases HR.out.2.2.2 with h | h | h
        · cases h
        · cases h
        · rintro rfl; exact h rfl
      have R0 : Hid (Keeps w wr ∧ Ord wr g1 ws.length (part total (lsum ws) ws d 0) ∧ Ord wr g2 ws.length (rsts total (lsum ws) ws d 0)) :=
        ⟨HR.out.1, o1.congr fun v _ => (part_zero _ _ _ _ _).symm, o2.congr fun v _ => (rsts_zero _ _ _ _ _).symm⟩
      rw [hL]
      have HLL := Lib.hid hL
      clear hL HR o1 o2 e1 e2
      go_wp2_with fail
      go_loopg [13] L (fun g vl wr => ∃ r t : Nat, vl = .int .i64 r ∧ r + t = L ∧ r ≤ g ∧ Hid (Keeps w wr ∧ Ord wr g1 ws.length (part total (lsum ws) ws d t) ∧ Ord wr g2 ws.length (rsts total (lsum ws) ws d t)))
      case atStart => exact ⟨L, 0, rfl, by omega, Nat.le_refl _, R0.out⟩
      case round =>
        clear R0
        obtain ⟨r, t, rfl, hrt, hg, HR⟩ := hrel
        by_cases hlt2 : 0 < r
        · go_wp2
          go_loopg [15, 16] ws.length (fun g vb vi wx => ∃ b i q : Nat, vb = .int .i64 b ∧ vi = .int .i64 i ∧ b < i ∧ i ≤ ws.length ∧ ws.length - i ≤ g ∧ wx = wr.drewN q ∧ Hid (Best (rsts total (lsum ws) ws d t) i b))
          case atStart => exact ⟨0, 1, 0, rfl, rfl, by omega, by omega, by omega, rfl, Best.start _⟩
          case round =>
            obtain ⟨b, i, q, rfl, rfl, hbi, hin, hg3, rfl, HBEST⟩ := hrel
            by_cases hlt3 : i < ws.length
            · have hixi := rowAt (P := Try.prog) Try.underlying22 Try.sizeOf3 g2 ws.length c2 i hlt3
              have hixb := rowAt (P := Try.prog) Try.underlying22 Try.sizeOf3 g2 ws.length c2 b (by omega)
              have hci := (HR.out.2.2 i hlt3).1
              have hcb := (HR.out.2.2 b (by omega)).1
              by_cases hc : rsts total (lsum ws) ws d t b < rsts total (lsum ws) ws d t i
              · have HN := Lib.hid (HBEST.out.new hc)
                have hcd : decide (rsts total (lsum ws) ws d t b < rsts total (lsum ws) ws d t i) = true := by simp [hc]
                clear hc HBEST
                go_wp2
                go_quiet (fail)
                go_wp2_with fail
                go_roundg (ws.length - (i + 1))
                case measure => omega
                case rel => exact ⟨i, i + 1, _, rfl, by go_num, by omega, by omega, by omega, rfl, HN.out⟩
              · have HN := Lib.hid (HBEST.out.keep hc)
                have hcd : decide (rsts total (lsum ws) ws d t b < rsts total (lsum ws) ws d t i) = false := by simp; omega
                clear hc HBEST
                go_wp2
                go_quiet (fail)
                go_wp2_with fail
                go_roundg (ws.length - (i + 1))
                case measure => omega
                case rel => exact ⟨b, i + 1, _, rfl, by go_num, by omega, by omega, by omega, rfl, HN.out⟩
            · obtain rfl : i = ws.length := by omega
              have hdb : d t = b := HBEST.out.next hs1 HSRT.out HSAME.out (by omega)
              have hix1 := rowAt (P := Try.prog) Try.underlying22 Try.sizeOf3 g1 ws.length c1 b hbi
              have hix2 := rowAt (P := Try.prog) Try.underlying22 Try.sizeOf3 g2 ws.length c2 b hbi
              have hc1 := (HR.out.2.1 b hbi).1
              have hf1 := (HR.out.2.1 b hbi).2
              have hc2 := (HR.out.2.2 b hbi).1
              have hf2 := (HR.out.2.2 b hbi).2
              have hpb := part_bd (ws := ws) (show 0 ≤ total by omega) ht.2 hs1 HW.out.w d t b
              have RN : Hid (∀ wx, wx = ((wr.drewN q).setCell ⟨g1, b, none⟩ (.int .i64 (part total (lsum ws) ws d t b + 1))).setCell ⟨g2, b, none⟩ (.int .i64 (-1)) → Keeps w wx ∧ Ord wx g1 ws.length (part total (lsum ws) ws d (t + 1)) ∧ Ord wx g2 ws.length (rsts total (lsum ws) ws d (t + 1))) := by
                rintro wx rfl
                refine ⟨Below.setCell (Below.setCell (HR.out.1.drewN q) (by show _ ≤ g1; omega) _) (by show _ ≤ g2; omega) _, ?_, ?_⟩
                · exact ((((HR.out.2.1.drewN q).store b _).storeOther (by show g2 ≠ g1; exact fun e => hne e.symm) _).congr (fun k hk => (part_step total (lsum ws) ws HSRT.out (show t < ws.length by omega) hdb k).symm))
                · exact ((((HR.out.2.2.drewN q).storeOther (by show g1 ≠ g2; exact hne) _).store b _).congr (fun k hk => (rsts_step total (lsum ws) ws hdb k).symm))
              have hcs : ((wr.drewN q).setCell ⟨g1, b, none⟩ (.int .i64 (part total (lsum ws) ws d t b + 1))).cell? ⟨g2, b, none⟩ = some (.int .i64 (rsts total (lsum ws) ws d t b)) := by
                rw [World.cell?_setCell_other _ _ _ _ (by intro e; simp only [Addr.mk.injEq] at e; omega)]; exact hc2
              clear hdb HBEST HR
              go_wp2
              go_roundg (r - 1)
              case measure => omega
              case rel => exact ⟨r - 1, t + 1, by congr 1; omega, by omega, Nat.le_refl _, RN.out _ rfl⟩
        · obtain rfl : r = 0 := by omega
          obtain rfl : t = L := by omega
          go_wp2
          go_ret2
          exact ⟨g1, c1, rfl, hg1, hc1a, hc1b, by rw [HLL.out, Int.toNat_natCast]; exact HR.out.2.1, HR.out.1⟩

theorem wholeS_neg (total : Int) (ws : List Int) : wholeS (-total) ws = wholeS total ws := by
  have h : amt (-total) = amt total := by
    unfold amt
    rw [Bool.eq_iff_iff]
    simp only [Bool.and_eq_true, decide_eq_true_eq]
    omega
  unfold wholeS
  rw [h]

set_option maxRecDepth 100000 in
set_option maxHeartbeats 1000000 in
theorem rsplit_neg (total : Int) (ws : List Int) (d : Nat → Int) (ao : Option Addr) (cap b o : Nat) (w : World) (H : Sl w 1 ao ws.length cap b o (ws.map (.int .i64))) (he : (wholeS total ws).2 = 0) (hneg : total < 0)
    (hs : Srt (rst (-total) (lsum ws) ws) d 0 ws.length) (hm : Same 0 ws.length (fun k => (k : Int)) d) :
    Calls Try.prog 13 #[.int .i64 total, .slice ao ws.length cap] w fun e w' => OutL w (splitL total ws d) 0 e w' := by
  have HC := Lib.hid (rsplit_pos (-total) ws d ao cap b o w H (by rw [wholeS_neg]; exact he) (by omega) hs hm)
  obtain ⟨hW, hE⟩ := wholeS_ok he
  have ht := amt_true.1 hW.ht
  have ht2 : -total ≤ 1000000000000 := by omega
  have hs1 := hW.hs
  have hl1 := hW.h1
  have hl2 := hW.h2
  have HW := Lib.hid hW
  have hB := lef_bd (abs := -total) (ws := ws) (by omega) hW.w hs1 hl1
  have HB := Lib.hid hB
  clear hE hW hs hm hB
  go_enter Try.func13, Try.ntmps13
  go_wp2_with (first | (go_at_call 26; refine (rcheck_any _ ws ao cap b o _ H).mono ?_; rintro e w' ⟨rfl, rfl⟩) | (go_at_call 13; refine HC.out.mono ?_; rintro e w1 ⟨g, c, rfl, hg, hc1, hc2, ho, hk⟩))
  obtain ⟨L, hL⟩ := Int.eq_ofNat_of_zero_le HB.out.1
  have HLL := Lib.hid hL
  rw [hL, Int.toNat_natCast] at ho
  have HR0 : Hid (Keeps w w1 ∧ Ord w1 g ws.length (negTo (part (-total) (lsum ws) ws d L) 0)) := ⟨hk, ho.congr fun v _ => by rw [negTo, if_neg (by omega)]⟩
  clear hL ho hk
  go_loopw [10] (fun i wr => ∃ k : Nat, k ≤ ws.length ∧ i = .int .i64 k ∧ Hid (Keeps w wr ∧ Ord wr g ws.length (negTo (part (-total) (lsum ws) ws d L) k))) (fun i _ => ws.length - (intOf i).toNat)
  case atStart => exact ⟨0, Nat.zero_le _, rfl, HR0.out⟩
  case round =>
    clear HR0
    obtain ⟨k, hk, rfl, HR⟩ := hrel
    by_cases hlt3 : k < ws.length
    · have hcx := (HR.out.2 k hlt3).1
      have hfx := (HR.out.2 k hlt3).2
      have hix1 := rowAt (P := Try.prog) Try.underlying22 Try.sizeOf3 g ws.length c k hlt3
      have hpb := part_bd (ws := ws) (show 0 ≤ -total by omega) ht2 hs1 HW.out.w d L k
      have hng : negTo (part (-total) (lsum ws) ws d L) k k = part (-total) (lsum ws) ws d L k := by rw [negTo, if_neg (by omega)]
      rw [hng] at hcx
      have HRN : Hid (Keeps w (wr.setCell ⟨g, k, none⟩ (.int .i64 (-part (-total) (lsum ws) ws d L k))) ∧ Ord (wr.setCell ⟨g, k, none⟩ (.int .i64 (-part (-total) (lsum ws) ws d L k))) g ws.length (negTo (part (-total) (lsum ws) ws d L) (k + 1))) :=
        ⟨Below.setCell HR.out.1 (by show _ ≤ g; omega) _, (HR.out.2.store k _).congr (fun v hv => by
          unfold upd negTo
          by_cases h1 : v = k
          · subst h1; rw [if_pos rfl, if_pos (by omega)]
          · rw [if_neg h1]
            by_cases h2 : v < k
            · rw [if_pos h2, if_pos (by omega)]
            · rw [if_neg h2, if_neg (by omega)])⟩
      clear hng HR
      go_wp2
      go_roundw
      case rel => exact ⟨k + 1, by omega, by go_num, HRN.out⟩
      case measure => simp [intOf]; omega
    · obtain rfl : k = ws.length := by omega
      go_wp2
      go_ret2
      rw [splitL_neg hneg HLL.out]
      have hs := (HR.out.2.congr (fun v hv => show _ = -part (-total) (lsum ws) ws d L v by rw [negTo, if_pos hv])).sl (by omega)
      refine ⟨some ⟨g, 0, none⟩, c, g, 0, ?_, ?_, HR.out.1⟩
      · rw [List.length_map, List.length_range]; rfl
      · rw [List.length_map, List.length_range]; exact hs.cap_up hc1 hc2

theorem rsplit_err (total : Int) (ws : List Int) (ao : Option Addr) (cap b o : Nat) (w : World) (H : Sl w 1 ao ws.length cap b o (ws.map (.int .i64))) (he : (wholeS total ws).2 ≠ 0) :
    Calls Try.prog 13 #[.int .i64 total, .slice ao ws.length cap] w fun e w' => OutL w [] (wholeS total ws).2 e w' := by
  have hb : ((wholeS total ws).2 != 0) = true := by simp [he]
  clear he
  go_enter Try.func13, Try.ntmps13
  go_wp2_with (go_at_call 26; refine (rcheck_any _ ws ao cap b o _ H).mono ?_; rintro e w' ⟨rfl, rfl⟩)
  go_ret2
  exact ⟨none, 0, 0, 0, rfl, Sl.nil _ _, Keeps.refl _⟩

theorem rsplit_any (total : Int) (ws : List Int) (d : Nat → Int) (ao : Option Addr) (cap b o : Nat) (w : World) (H : Sl w 1 ao ws.length cap b o (ws.map (.int .i64))) (he : (wholeS total ws).2 = 0)
    (hs : Srt (rst (sgn total total) (lsum ws) ws) d 0 ws.length) (hm : Same 0 ws.length (fun k => (k : Int)) d) :
    Calls Try.prog 13 #[.int .i64 total, .slice ao ws.length cap] w fun e w' => OutL w (splitL total ws d) 0 e w' := by
  by_cases hn : total < 0
  · rw [sgn, if_pos hn] at hs
    exact rsplit_neg total ws d ao cap b o w H he hn hs hm
  · rw [sgn, if_neg hn] at hs
    refine (rsplit_pos total ws d ao cap b o w H he hn hs hm).mono fun e w' h => ?_
    have h2 := h.outL
    have hW := (wholeS_ok he).1
    obtain ⟨L, hL⟩ := Int.eq_ofNat_of_zero_le (lef_bd (abs := total) (ws := ws) (by omega) hW.w hW.hs hW.h1).1
    rw [hL, Int.toNat_natCast] at h2
    rw [splitL_pos hn hL]
    exact h2
end Go.Proofs.Ytppjjmjdiccloaa
