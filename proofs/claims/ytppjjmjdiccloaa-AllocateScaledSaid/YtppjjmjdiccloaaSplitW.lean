/- Split of the program: the walk, given the sort of its places. -/
import Derived.Test.YtppjjmjdiccloaaWhole
import Derived.Test.YtppjjmjdiccloaaOrdS
namespace Go.Proofs.Ytppjjmjdiccloaa
open Go.RowKit

theorem infoInt' : (Try.prog.info? 3).map (fun i => (i.zero, i.size, i.bytes)) = some (some (.int .i64 0), 1, 8) := by kernel_rfl

theorem Ord.made {w : World} {base e g n : Nat} (h : w.ownsRow base e 1 (.slice (some ⟨g, 0, none⟩) n n) n (madeCells #[Value.int .i64 0] n).toList) : Ord w g n (fun _ => 0) := by
  intro i hi
  refine ⟨?_, h.frozenAt i⟩
  rw [h.cellAt i (by omega)]
  rw [toList_madeCells_one]
  simp [hi]
theorem Ord.store {w : World} {g n : Nat} {d : Nat → Int} (h : Ord w g n d) (i : Nat) (v : Int) : Ord (w.setCell ⟨g, i, none⟩ (.int .i64 v)) g n (upd d i v) := by
  intro k hk
  refine ⟨?_, by rw [World.frozen?_setCell]; exact (h k hk).2⟩
  unfold upd
  by_cases hki : k = i
  · subst hki; rw [if_pos rfl]; exact World.cell?_setCell_same _ _ _ (h k hk).1
  · rw [if_neg hki, World.cell?_setCell_other _ _ _ _ (by simp; try omega)]; exact (h k hk).1
theorem Ord.storeOther {w : World} {g n : Nat} {d : Nat → Int} (h : Ord w g n d) {p : Addr} (hp : p.block ≠ g) (u : Value) : Ord (w.setCell p u) g n d := by
  intro k hk
  exact ⟨by rw [World.cell?_setCell_other _ _ _ _ (by intro e; rw [e] at hp; exact hp rfl)]; exact (h k hk).1, by rw [World.frozen?_setCell]; exact (h k hk).2⟩
theorem Ord.congr {w : World} {g n : Nat} {d e : Nat → Int} (h : Ord w g n d) (he : ∀ k, k < n → d k = e k) : Ord w g n e := fun k hk => by rw [← he k hk]; exact h k hk
theorem Ord.sl {w : World} {g n : Nat} {d : Nat → Int} (h : Ord w g n d) (hn : n ≤ 9223372036854775807) : Sl w 1 (some ⟨g, 0, none⟩) n n g 0 (((List.range n).map d).map (.int .i64)) := by
  refine ⟨by simp, Nat.le_refl _, (fun h => by cases h), hn, fun _ => rfl, fun j u hu => ?_⟩
  have hj : j < n := by
    have := (List.getElem?_eq_some_iff.1 hu).1
    simpa using this
  rw [Nat.zero_add, (h j hj).1]
  rw [List.getElem?_map, List.getElem?_map, List.getElem?_range hj] at hu
  exact hu
theorem Ord.only {w w' : World} {g n : Nat} {d : Nat → Int} (h : Ord w g n d) {row : Option Nat} (hg : w.grownBy w' row) (hne : some g ≠ row) : Ord w' g n d := by
  intro k hk
  have hlt := World.block_lt_of_cell? w _ (h k hk).1
  exact ⟨hg.cell (h k hk).1 hne, by rw [World.frozen?_of_block (w := w) (hg.block g hlt hne)]; exact (h k hk).2⟩

/-- The world in the midst of Split: three variables, the parts (block g), the order (block h). -/
structure SpW (w wr : World) (g h : Nat) (abs sum : Int) (ao : Option Addr) (n cap : Nat) (f1 f2 : Nat → Int) : Prop where
  kp : Keeps w wr
  cw : wr.cell? ⟨w.heap.size, 0, none⟩ = some (.slice ao n cap)
  cs : wr.cell? ⟨w.heap.size + 1, 0, none⟩ = some (.int .i64 sum)
  ca : wr.cell? ⟨w.heap.size + 1 + 1, 0, none⟩ = some (.int .i64 abs)
  o1 : Ord wr g n f1
  o2 : Ord wr h n f2
  hg : w.heap.size + 3 ≤ g
  hh : g < h
theorem SpW.drewN {w wr : World} {g h : Nat} {abs sum : Int} {ao : Option Addr} {n cap : Nat} {f1 f2 : Nat → Int} (s : SpW w wr g h abs sum ao n cap f1 f2) (q : Nat) : SpW w (wr.drewN q) g h abs sum ao n cap f1 f2 :=
  ⟨s.kp.drewN q, s.cw, s.cs, s.ca, s.o1, s.o2, s.hg, s.hh⟩
theorem SpW.st1 {w wr : World} {g h : Nat} {abs sum : Int} {ao : Option Addr} {n cap : Nat} {f1 f2 : Nat → Int} (s : SpW w wr g h abs sum ao n cap f1 f2) (i : Nat) (v : Int) :
    SpW w (wr.setCell ⟨g, i, none⟩ (.int .i64 v)) g h abs sum ao n cap (upd f1 i v) f2 := by
  have h1 := s.hg
  have h2 := s.hh
  exact ⟨Below.setCell s.kp (by show _ ≤ g; omega) _, by rw [World.cell?_setCell_other _ _ _ _ (by simp; try omega)]; exact s.cw, by rw [World.cell?_setCell_other _ _ _ _ (by simp; try omega)]; exact s.cs,
    by rw [World.cell?_setCell_other _ _ _ _ (by simp; try omega)]; exact s.ca, s.o1.store i v, s.o2.storeOther (by show g ≠ h; omega) _, h1, h2⟩
theorem SpW.st2 {w wr : World} {g h : Nat} {abs sum : Int} {ao : Option Addr} {n cap : Nat} {f1 f2 : Nat → Int} (s : SpW w wr g h abs sum ao n cap f1 f2) (i : Nat) (v : Int) :
    SpW w (wr.setCell ⟨h, i, none⟩ (.int .i64 v)) g h abs sum ao n cap f1 (upd f2 i v) := by
  have h1 := s.hg
  have h2 := s.hh
  exact ⟨Below.setCell s.kp (by show _ ≤ h; omega) _, by rw [World.cell?_setCell_other _ _ _ _ (by simp; try omega)]; exact s.cw, by rw [World.cell?_setCell_other _ _ _ _ (by simp; try omega)]; exact s.cs,
    by rw [World.cell?_setCell_other _ _ _ _ (by simp; try omega)]; exact s.ca, s.o1.storeOther (by show h ≠ g; omega) _, s.o2.store i v, h1, h2⟩

def basTo (abs sum : Int) (ws : List Int) (k : Nat) : Nat → Int := fun v => if v < k then bas abs sum ws v else 0
def idTo (k : Nat) : Nat → Int := fun v => if v < k then (v : Int) else 0
theorem SpW.round {w wr : World} {g h : Nat} {abs sum : Int} {ao : Option Addr} {n cap : Nat} {ws : List Int} {k : Nat} (s : SpW w wr g h abs sum ao n cap (basTo abs sum ws k) (idTo k)) :
    SpW w ((wr.setCell ⟨h, k, none⟩ (.int .i64 k)).setCell ⟨g, k, none⟩ (.int .i64 (bas abs sum ws k))) g h abs sum ao n cap (basTo abs sum ws (k + 1)) (idTo (k + 1)) := by
  have := (s.st2 k k).st1 k (bas abs sum ws k)
  refine ⟨this.kp, this.cw, this.cs, this.ca, this.o1.congr fun v _ => ?_, this.o2.congr fun v _ => ?_, this.hg, this.hh⟩
  · unfold upd basTo
    by_cases hv : v = k
    · subst hv; rw [if_pos rfl, if_pos (by omega)]
    · rw [if_neg hv]
      by_cases hv2 : v < k
      · rw [if_pos hv2, if_pos (by omega)]
      · rw [if_neg hv2, if_neg (by omega)]
  · unfold upd idTo
    by_cases hv : v = k
    · subst hv; rw [if_pos rfl, if_pos (by omega)]
    · rw [if_neg hv]
      by_cases hv2 : v < k
      · rw [if_pos hv2, if_pos (by omega)]
      · rw [if_neg hv2, if_neg (by omega)]

/-- What Split returns. -/
def SplitPost (w : World) (total : Int) (ws : List Int) (e : Ending) (w' : World) : Prop :=
  if (wholeS total ws).2 = 0 then ∃ d, Srt (rst (sgn total total) (lsum ws) ws) d 0 ws.length ∧ Same 0 ws.length (fun k => (k : Int)) d ∧ OutL w (splitL total ws d) 0 e w'
  else OutL w [] (wholeS total ws).2 e w'

theorem three_0 (w : World) (a b c : Value) (x y z : TypeId) : (((w.alloc (.cells #[a] x)).alloc (.cells #[b] y)).alloc (.cells #[c] z)).cell? ⟨w.heap.size, 0, none⟩ = some a := by go_simp
theorem three_1 (w : World) (a b c : Value) (x y z : TypeId) : (((w.alloc (.cells #[a] x)).alloc (.cells #[b] y)).alloc (.cells #[c] z)).cell? ⟨w.heap.size + 1, 0, none⟩ = some b := by go_simp
theorem three_2 (w : World) (a b c : Value) (x y z : TypeId) : (((w.alloc (.cells #[a] x)).alloc (.cells #[b] y)).alloc (.cells #[c] z)).cell? ⟨w.heap.size + 1 + 1, 0, none⟩ = some c := by go_simp

set_option maxHeartbeats 1000000 in
theorem split_pos (total : Int) (ws : List Int) (ao : Option Addr) (cap b o : Nat) (w : World) (H : Sl w 1 ao ws.length cap b o (ws.map (.int .i64))) (HSS : Hid (SortSaid ws.length)) (he : (wholeS total ws).2 = 0) (hneg : ¬ total < 0) :
    Calls Try.prog 12 #[.int .i64 total, .slice ao ws.length cap] w fun e w' => SplitPost w total ws e w' := by
  obtain ⟨hW, hE⟩ := wholeS_ok he
  have hE1 : (wholeS total ws).1 = lsum ws := by rw [hE]
  have ht := amt_true.1 hW.ht
  have hs1 := hW.hs
  have hs2 := hW.hs2
  have hl1 := hW.h1
  have hl2 := hW.h2
  have hsg : sgn total total = total := by rw [sgn, if_neg hneg]
  have HP : Hid (∀ e w', (∃ d, Srt (rst total (lsum ws) ws) d 0 ws.length ∧ Same 0 ws.length (fun k => (k : Int)) d ∧ OutL w (splitL total ws d) 0 e w') → SplitPost w total ws e w') := by
    intro e w' h
    rw [SplitPost, if_pos he, hsg]
    exact h
  obtain ⟨i0, hi, hz0, hz1, hz2⟩ := info_parts infoInt'
  have HW := Lib.hid hW
  clear hE hW hsg
  go_enter Try.func12, Try.ntmps12
  go_wp2_with (first | (go_at_call 22; refine (whole_any _ ws ao cap b o _ (H.keeps ((Keeps.refl w).alloc _))).mono ?_; rintro e w' ⟨rfl, rfl⟩) | (at_make; refine wpList_make_full _ rfl (.tmp 31) (.tmp 31) 22 rfl (w.heap.size + 3) 3 i0 (.int .i64 0) 1 Try.underlying22 hi hz0 hz1 _ _ _ _ ws.length rfl rfl rfl rfl ?b1 ?b2 ?b3 ?_))
  case b1 => rw [hz2]; omega
  case b2 => unfold maxLen; omega
  case b3 => simp; try omega
  intro w1 hown1 hgrow1
  have k1 : Keeps w w1 := ((((Keeps.refl w).alloc _).alloc _).alloc _).trans ((Keeps.refl _).grown hgrow1 (Nat.le_refl _) (fun j hj => by cases hj))
  have cw1 : w1.cell? ⟨w.heap.size, 0, none⟩ = some (.slice ao ws.length cap) := hgrow1.cell (three_0 w _ _ _ _ _ _) (fun e => by cases e)
  have cs1 : w1.cell? ⟨w.heap.size + 1, 0, none⟩ = some (.int .i64 (lsum ws)) := hgrow1.cell (three_1 w _ _ _ _ _ _) (fun e => by cases e)
  have ca1 : w1.cell? ⟨w.heap.size + 1 + 1, 0, none⟩ = some (.int .i64 total) := hgrow1.cell (three_2 w _ _ _ _ _ _) (fun e => by cases e)
  have o1 := Ord.made hown1
  have sz1 : w.heap.size + 1 + 1 + 1 < w1.heap.size := World.block_lt_of_cell? w1 _ (o1 0 (by omega)).1
  have hid1 := Lib.hid (show Keeps w w1 ∧ Ord w1 (w.heap.size + 1 + 1 + 1) ws.length (fun _ => 0) from ⟨k1, o1⟩)
  clear k1 o1 hown1 hgrow1
  go_wp2_with (at_make; refine wpList_make_full _ rfl (.tmp 34) (.tmp 34) 22 rfl (w.heap.size + 3) 3 i0 (.int .i64 0) 1 Try.underlying22 hi hz0 hz1 _ _ _ _ ws.length rfl rfl rfl rfl ?b4 ?b5 ?b6 ?_)
  case b4 => rw [hz2]; omega
  case b5 => unfold maxLen; omega
  case b6 => omega
  intro w2 hown2 hgrow2
  have s2 : SpW w w2 (w.heap.size + 1 + 1 + 1) w1.heap.size total (lsum ws) ao ws.length cap (fun _ => 0) (fun _ => 0) :=
    ⟨hid1.out.1.trans ((Keeps.refl _).grown hgrow2 (Nat.le_refl _) (fun j hj => by cases hj)), hgrow2.cell cw1 (fun e => by cases e), hgrow2.cell cs1 (fun e => by cases e), hgrow2.cell ca1 (fun e => by cases e), hid1.out.2.only hgrow2 (fun e => by cases e), Ord.made hown2, by omega, by omega⟩
  have cw2 := s2.cw
  have ca2 := s2.ca
  have S2 := Lib.hid s2
  clear s2 hid1 hown2 hgrow2 cw1 cs1 ca1
  go_wp2_with fail
  have hB := lef_bd (abs := total) (ws := ws) (by omega) HW.out.w hs1 hl1
  have HB := Lib.hid hB
  clear hB cw2 ca2
  go_loopw [11, 39] (fun lf i wr => ∃ k : Nat, k ≤ ws.length ∧ i = .int .i64 k ∧ lf = .int .i64 (lef total (lsum ws) ws k) ∧ Hid (SpW w wr (w.heap.size + 1 + 1 + 1) w1.heap.size total (lsum ws) ao ws.length cap (basTo total (lsum ws) ws k) (idTo k))) (fun _ i _ => ws.length - (intOf i).toNat)
  case atStart =>
    refine ⟨0, Nat.zero_le _, rfl, by simp [lef, sumTo], ?_⟩
    have := S2.out
    exact ⟨this.kp, this.cw, this.cs, this.ca, this.o1.congr fun v _ => by simp [basTo], this.o2.congr fun v _ => by simp [idTo], this.hg, this.hh⟩
  case round =>
    clear S2
    obtain ⟨k, hk, rfl, rfl, SW⟩ := hrel
    by_cases hlt : k < ws.length
    · have HSl := H.keeps SW.out.kp
      have hix := HSl.at1 Try.underlying22 Try.sizeOf3 k hlt
      have hcell := HSl.int k hlt
      have hgk := SW.out.hg
      have hhk := SW.out.hh
      have hne : w.heap.size + 1 + 1 + 1 ≠ w1.heap.size := by omega
      have hc1 := (SW.out.o1 k hlt).1
      have hf1 := (SW.out.o1 k hlt).2
      have hc2 := (SW.out.o2 k hlt).1
      have hf2 := (SW.out.o2 k hlt).2
      have ca := SW.out.ca
      have cs := SW.out.cs
      have hw := HW.out.w _ (List.getElem_mem hlt)
      have hmul : 0 ≤ total * ws[k] ∧ total * ws[k] ≤ 1000000000000000000 := ⟨Int.mul_nonneg (by omega) hw.1, by
        have := Int.mul_le_mul ht.2 hw.2 hw.1 (by omega)
        omega⟩
      have hl0 := HB.out.2.2 k hk
      have hl3 := HB.out.2.2 (k + 1) (by omega)
      have eb : bas total (lsum ws) ws k = total * ws[k] / lsum ws := by unfold bas; rw [List.getD_eq_getElem?_getD, List.getElem?_eq_getElem hlt]; rfl
      have el : lef total (lsum ws) ws (k + 1) = lef total (lsum ws) ws k - total * ws[k] / lsum ws := by rw [← eb]; unfold lef; rw [sumTo]; omega
      have EB := Lib.hid eb
      have EL := Lib.hid el
      rw [el] at hl3
      have SR := Lib.hid SW.out.round
      clear eb el hw SW
      go_wp2
      go_roundw
      case rel => exact ⟨k + 1, by omega, by go_num, by rw [EL.out], by have := SR.out; rw [EB.out] at this; exact this⟩
      case measure => simp [intOf]; omega
    · obtain rfl : k = ws.length := by omega
      obtain ⟨L, hL⟩ := Int.eq_ofNat_of_zero_le HB.out.1
      have hLn : L < ws.length := by have := HB.out.2.1; omega
      have hbw : b < w.heap.size := World.block_lt_of_cell? w ⟨b, o + 0, none⟩ (H.int 0 (by omega))
      have hgk := SW.out.hg
      have hhk := SW.out.hh
      have hss : SS wr wr w1.heap.size ws.length (w.heap.size + 1 + 1) w.heap.size (w.heap.size + 1) total (lsum ws) ws ao cap b o (fun k => (k : Int)) :=
        ⟨⟨SW.out.ca, SW.out.cw, SW.out.cs, H.keeps SW.out.kp, by omega, by omega, by omega, by omega⟩, World.grownBy.refl _ _, SW.out.o2.congr (fun v hv => by unfold idTo; rw [if_pos hv]), by omega, hs1, HW.out.w, rfl, fun i hi => by omega⟩
      have HC := Lib.hid (HSS.out wr wr w1.heap.size (w.heap.size + 1 + 1) w.heap.size (w.heap.size + 1) total (lsum ws) ws ao cap b o (fun k => (k : Int)) ws.length hss (fun _ _ => rfl))
      have KP := Lib.hid SW.out.kp
      have O1 := Lib.hid SW.out.o1
      clear hss SW
      rw [hL]
      have HLL := Lib.hid hL
      clear hL
      go_wp2_with (go_at_call 23; refine HC.out.mono ?_; rintro e w3 ⟨rfl, d, hs3, hsrt, hsame⟩; have HS3 := Lib.hid hs3; have HSRT := Lib.hid hsrt; have HSAME := Lib.hid hsame; clear hs3 hsrt hsame)
      have kp3 : Keeps w w3 := KP.out.grown HS3.out.on KP.out.size (fun j hj => by cases hj; omega)
      have o13 : Ord w3 (w.heap.size + 1 + 1 + 1) ws.length (part total (lsum ws) ws d 0) :=
        (O1.out.only HS3.out.on (by simp; omega)).congr (fun v hv => by rw [part_zero]; unfold basTo; rw [if_pos hv])
      have hr0 : Keeps w w3 ∧ Ord w3 (w.heap.size + 1 + 1 + 1) ws.length (part total (lsum ws) ws d 0) ∧ Ord w3 w1.heap.size ws.length d := ⟨kp3, o13, HS3.out.row⟩
      have HR0 := Lib.hid hr0
      have HIN := Lib.hid HS3.out.inr
      clear hr0 o13 kp3 HS3 O1 KP HC
      go_loopw [70] (fun i wr => ∃ t : Nat, t ≤ L ∧ i = .int .i64 t ∧ Hid (Keeps w wr ∧ Ord wr (w.heap.size + 1 + 1 + 1) ws.length (part total (lsum ws) ws d t) ∧ Ord wr w1.heap.size ws.length d)) (fun i _ => L - (intOf i).toNat)
      case atStart => exact ⟨0, Nat.zero_le _, rfl, HR0.out⟩
      case round =>
        clear HR0
        obtain ⟨t, htL, rfl, HR⟩ := hrel
        by_cases hlt2 : t < L
        · obtain ⟨v, hv⟩ := Int.eq_ofNat_of_zero_le (HIN.out t (by omega)).1
          have hvn : v < ws.length := by have := (HIN.out t (by omega)).2; omega
          have hc2 : wr.cell? ⟨w1.heap.size, t, none⟩ = some (.int .i64 (v : Int)) := by rw [← hv]; exact (HR.out.2.2 t (by omega)).1
          have hc1 := (HR.out.2.1 v hvn).1
          have hf1 := (HR.out.2.1 v hvn).2
          have hpb := part_bd (ws := ws) (show 0 ≤ total by omega) ht.2 hs1 HW.out.w d t v
          have HV := Lib.hid hv
          have HRN : Hid (Keeps w (wr.setCell ⟨w.heap.size + 1 + 1 + 1, v, none⟩ (.int .i64 (part total (lsum ws) ws d t v + 1))) ∧ Ord (wr.setCell ⟨w.heap.size + 1 + 1 + 1, v, none⟩ (.int .i64 (part total (lsum ws) ws d t v + 1))) (w.heap.size + 1 + 1 + 1) ws.length (part total (lsum ws) ws d (t + 1)) ∧ Ord (wr.setCell ⟨w.heap.size + 1 + 1 + 1, v, none⟩ (.int .i64 (part total (lsum ws) ws d t v + 1))) w1.heap.size ws.length d) :=
            ⟨Below.setCell HR.out.1 (by show _ ≤ w.heap.size + 1 + 1 + 1; omega) _, (HR.out.2.1.store v _).congr (fun k hk => (part_step total (lsum ws) ws HSRT.out (show t < ws.length by omega) hv k).symm), HR.out.2.2.storeOther (by show w.heap.size + 1 + 1 + 1 ≠ _; omega) _⟩
          clear hv HR
          go_wp2
          go_roundw
          case rel => exact ⟨t + 1, by omega, by go_num, HRN.out⟩
          case measure => simp [intOf]; omega
        · obtain rfl : t = L := by omega
          go_wp2
          go_ret2
          refine HP.out _ _ ⟨d, HSRT.out, HSAME.out, ?_⟩
          rw [splitL_pos (show ¬ total < 0 by omega) HLL.out]
          have hs := HR.out.2.1.sl (by omega)
          refine ⟨some ⟨w.heap.size + 1 + 1 + 1, 0, none⟩, ws.length, w.heap.size + 1 + 1 + 1, 0, ?_, ?_, HR.out.1⟩
          · rw [List.length_map, List.length_range]; rfl
          · rw [List.length_map, List.length_range]; exact hs
end Go.Proofs.Ytppjjmjdiccloaa
