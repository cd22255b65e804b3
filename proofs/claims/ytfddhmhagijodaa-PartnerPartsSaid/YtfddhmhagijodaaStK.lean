/- The setting of Go's stable sort over the comparison of places; swapRange: the walk. -/
import Derived.Test.YtfddhmhagijodaaPlcW
import Derived.Test.YtfddhmhagijodaaSymP
import Derived.Deep.QuietTactic
import Derived.BigQuiet
import Derived.BigRegion
import Derived.Deep.LoopGhost
import Derived.Sort.LotA
namespace Go.Proofs.Ytfddhmhagijodaa
open Go.RowKit Go.Shelf Go.Lib Go.Sort
set_option linter.unusedSimpArgs false
set_option linter.unusedVariables false

/-- The row holds the places pl (d 0), pl (d 1), .. -/
def ST (w0 : World) (blk off n k : Nat) (pl : Int → Plc) (d : Nat → Int) (W : World) : Prop := ∃ dk : Array Plc, dk.size = n ∧ (∀ i, i < n → dk[i]! = pl (d i)) ∧ (∀ i, i < n → 0 ≤ d i ∧ d i < (n : Int)) ∧ SWK Plc.cells k w0 blk off dk W
/-- What is told of the row, once. -/
structure SR (w0 : World) (blk off n k : Nat) : Prop where
  k8 : k = 8
  row : ∃ d0 : Array Plc, d0.size = n ∧ RowK Plc.cells k w0 blk off d0
theorem ST.swap {w0 W : World} {blk off n k : Nat} {pl : Int → Plc} {d : Nat → Int} (h : ST w0 blk off n k pl d W) (R : SR w0 blk off n k) (i j : Nat) (hi : i < n) (hj : j < n) :
    ST w0 blk off n k pl (swf d i j) ((W.drew.setCells blk (off + i * k) (pl (d j)).cells).setCells blk (off + j * k) (pl (d i)).cells) := by
  obtain ⟨dk, hs, hd, hr, hw⟩ := h
  obtain ⟨d0, hs0, R0⟩ := R.row
  refine ⟨swp dk i j, by rw [size_swp, hs], fun m hm => ?_, fun m hm => ?_, ?_⟩
  · rw [swp_get dk (by omega) (by omega), swf_at]
    split
    · exact hd i hi
    · split
      · exact hd j hj
      · exact hd m hm
  · rw [swf_at]
    split
    · exact hr i hi
    · split
      · exact hr j hj
      · exact hr m hm
  · have := hw.swapped R0 i j (by omega) (by omega)
    rw [hd i hi, hd j hj] at this
    exact this
theorem ST.drewN {w0 W : World} {blk off n k : Nat} {pl : Int → Plc} {d : Nat → Int} (h : ST w0 blk off n k pl d W) (q : Nat) : ST w0 blk off n k pl d (W.drewN q) := by
  obtain ⟨dk, hs, hd, hr, hw⟩ := h
  exact ⟨dk, hs, hd, hr, hw.drewN q⟩
theorem ST.grown {w0 W : World} {blk off n k : Nat} {pl : Int → Plc} {d : Nat → Int} (h : ST w0 blk off n k pl d W) (q : Nat) (os : Array Obj) : ST w0 blk off n k pl d (grow (W.drewN q) os) := by
  obtain ⟨dk, hs, hd, hr, hw⟩ := h
  exact ⟨dk, hs, hd, hr, hw.grown q os⟩
theorem ST.ld {w0 W : World} {blk off n k : Nat} {pl : Int → Plc} {d : Nat → Int} (h : ST w0 blk off n k pl d W) (R : SR w0 blk off n k) (i : Nat) (hi : i < n) (q : Nat) (os : Array Obj) :
    Sem.run Try.prog (loadCellsFrom ⟨blk, off + i * k, none⟩ 0 k #[]) (grow (W.drewN q) os) = .ok (pl (d i)).cells.toArray (grow (W.drewN q) os) := by
  obtain ⟨dk, hs, hd, hr, hw⟩ := h
  obtain ⟨d0, hs0, R0⟩ := R.row
  rw [← hd i hi]
  exact hw.ld R0 (by omega) Try.prog i (by omega) q os
/-- The comparison of places goes by the numbers rs: the greater one first. -/
def CfP (pl : Int → Plc) (rs : Int → Int) (n : Nat) : Prop := ∀ a b : Int, 0 ≤ a → a < (n : Int) → 0 ≤ b → b < (n : Int) → cmpP (pl a) (pl b) = cmpI (rs b) (rs a)
theorem ST.cmp {w0 W : World} {blk off n k : Nat} {pl : Int → Plc} {rs : Int → Int} {d : Nat → Int} (h : ST w0 blk off n k pl d W) (hcf : CfP pl rs n) (i j : Nat) (hi : i < n) (hj : j < n) (q : Nat) (os : Array Obj) :
    Calls Try.prog 52 #[.agg (pl (d i)).cells.toArray, .agg (pl (d j)).cells.toArray] (grow (W.drewN q) os) fun e w' => e = .returned (.int .i64 (cmpI (rs (d j)) (rs (d i)))) ∧ ∃ q2 os2, w' = grow ((grow (W.drewN q) os).drewN q2) os2 := by
  obtain ⟨dk, hs, hd, hr, hw⟩ := h
  rw [← hcf _ _ (hr i hi).1 (hr i hi).2 (hr j hj).1 (hr j hj).2]
  exact plcmp_any _ _ _
theorem ST.ld1 {w0 W : World} {blk off n k : Nat} {pl : Int → Plc} {d : Nat → Int} (h : ST w0 blk off n k pl d W) (R : SR w0 blk off n k) (i : Nat) (hi : i < n) :
    Sem.run Try.prog (loadCellsFrom ⟨blk, off + i * k, none⟩ 0 k #[]) W.drew = .ok (pl (d i)).cells.toArray W.drew := by
  obtain ⟨dk, hs, hd, hr, hw⟩ := h
  obtain ⟨d0, hs0, R0⟩ := R.row
  rw [← hd i hi]
  exact hw.ld1 R0 (by omega) Try.prog i (by omega)
theorem ST.st1 {w0 W : World} {blk off n k : Nat} {pl : Int → Plc} {d : Nat → Int} (h : ST w0 blk off n k pl d W) (R : SR w0 blk off n k) (i : Nat) (hi : i < n) (y : Plc) :
    Sem.run Try.prog (storeCells ⟨blk, off + i * k, none⟩ y.cells 0) W.drew = .ok () (W.drew.setCells blk (off + i * k) y.cells) := by
  obtain ⟨dk, hs, hd, hr, hw⟩ := h
  obtain ⟨d0, hs0, R0⟩ := R.row
  exact hw.st1 R0 (by omega) Try.prog i (by omega) y
theorem ST.st2 {w0 W : World} {blk off n k : Nat} {pl : Int → Plc} {d : Nat → Int} (h : ST w0 blk off n k pl d W) (R : SR w0 blk off n k) (i j : Nat) (hi : i < n) (hj : j < n) (y x : Plc) :
    Sem.run Try.prog (storeCells ⟨blk, off + j * k, none⟩ x.cells 0) (W.drew.setCells blk (off + i * k) y.cells) = .ok () ((W.drew.setCells blk (off + i * k) y.cells).setCells blk (off + j * k) x.cells) := by
  obtain ⟨dk, hs, hd, hr, hw⟩ := h
  obtain ⟨d0, hs0, R0⟩ := R.row
  exact hw.st2 R0 (by omega) Try.prog i j (by omega) (by omega) y x
theorem rowAtK {P : Program} {t e : TypeId} {k : Nat} (ht : P.underlying t = some (.slice e)) (hz : ∀ w, (sizeOf e).run P w = .ok k w) (g off n c i : Nat) (hi : i < n) :
    ∀ w', (Instr.indexAt t (.slice (some ⟨g, off, none⟩) n c) (.int .i64 (i : Int))).run P w' = .ok (.pointer (some ⟨g, off + i * k, none⟩)) w' := by
  intro w'
  have h1 : ((⟨g, off, none⟩ : Addr).add (i * k)) = ⟨g, off + i * k, none⟩ := Addr.add_lit _ _ _
  have he : P.elem t = e := by simp [Program.elem, ht]
  rw [run_indexAt_slice _ _ _ _ _ _ _ (by rw [he]; exact ht), if_pos (by omega), he, hz, Result.andThen_ok, Int.toNat_natCast, h1]
set_option maxRecDepth 100000 in
set_option maxHeartbeats 4000000 in
theorem swapr_any (w0 w : World) (blk off n k : Nat) (R : SR w0 blk off n k) (pl : Int → Plc) (d0 : Nat → Int) (h : ST w0 blk off n k pl d0 w) (c : Nat)
    (x y t : Nat) (hxy : x + t ≤ y) (hyn : y + t ≤ n) (hn : n ≤ 100000) :
    Calls Try.prog 98 #[.slice (some ⟨blk, off, none⟩) n c, .int .i64 x, .int .i64 y, .int .i64 t, .func (.func 52) #[] #[]] w
      fun e w' => e = .returned (.tuple #[]) ∧ ST w0 blk off n k pl (swr d0 x y t) w' := by
  have H := Lib.hid h
  have HR := Lib.hid R
  have zE : ∀ w, (Go.sizeOf 75).run Try.prog w = .ok k w := by rw [R.k8]; exact Try.sizeOf75
  have ZE := Lib.hid zE
  clear h R
  go_enter Try.func98, Try.ntmps98
  go_wp2
  go_loopg [10] t (fun g vi wr => ∃ j : Nat, vi = .int .i64 j ∧ j ≤ t ∧ t - j ≤ g ∧ Hid (ST w0 blk off n k pl (swr d0 x y j) wr))
  case atStart => exact ⟨0, rfl, Nat.zero_le _, by omega, by rw [swr_zero]; exact H⟩
  case round =>
    obtain ⟨j, rfl, hj, hg, HS⟩ := hrel
    by_cases hlt : j < t
    · have hi1 : x + j < n := by omega
      have hi2 : y + j < n := by omega
      have hix0 := rowAtK (P := Try.prog) Try.underlying72 ZE.out blk off n c (x + j) hi1
      have hix1 := rowAtK (P := Try.prog) Try.underlying72 ZE.out blk off n c (y + j) hi2
      rw [Int.natCast_add] at hix0 hix1
      have lx := HS.out.ld1 HR.out (x + j) hi1
      have ly := HS.out.ld1 HR.out (y + j) hi2
      have s1 := HS.out.st1 HR.out (x + j) hi1 (pl (swr d0 x y j (y + j)))
      have s2 := HS.out.st2 HR.out (x + j) (y + j) hi1 hi2 (pl (swr d0 x y j (y + j))) (pl (swr d0 x y j (x + j)))
      have SW := Lib.hid (HS.out.swap HR.out (x + j) (y + j) hi1 hi2)
      have hw1 : IntKind.i64.wrap ((x : Int) + j) = (x : Int) + j := by rw [IntKind.wrap_i64]; omega
      have hw2 : IntKind.i64.wrap ((y : Int) + j) = (y : Int) + j := by rw [IntKind.wrap_i64]; omega
      have HSS := Lib.hid (swr_succ d0 x y j (by omega))
      have hl1 : (pl (swr d0 x y j (x + j))).cells.length = k := by rw [HR.out.k8]; rfl
      have hl2 : (pl (swr d0 x y j (y + j))).cells.length = k := by rw [HR.out.k8]; rfl
      obtain ⟨cx, hcx⟩ : ∃ c, (pl (swr d0 x y j (x + j))).cells = c := ⟨_, rfl⟩
      obtain ⟨cy, hcy⟩ : ∃ c, (pl (swr d0 x y j (y + j))).cells = c := ⟨_, rfl⟩
      rw [hcx] at lx s2 hl1 SW
      rw [hcy] at ly s1 s2 hl2 SW
      have aE := Try.isAgg75
      have mixed : Try.prog.follows .mixedOrders = true := by kernel_rfl
      clear HS hcx hcy
      go_wp2_with fail
      go_big_region_o
      all_goals go_wp2
      go_roundg (t - (j + 1))
      case measure => omega
      case rel => exact ⟨j + 1, by go_num, by omega, by omega, by rw [← HSS.out]; exact SW⟩
    · obtain rfl : j = t := by omega
      go_wp2
      go_end0
      exact ⟨rfl, HS.out⟩
set_option maxHeartbeats 1000000 in
theorem rotate_any (w0 w : World) (blk off n k8 : Nat) (R : SR w0 blk off n k8) (pl : Int → Plc) (d0 : Nat → Int) (h : ST w0 blk off n k8 pl d0 w) (c : Nat)
    (s m e : Nat) (hsm : s < m) (hme : m < e) (hen : e ≤ n) (hn : n ≤ 100000) :
    Calls Try.prog 93 #[.slice (some ⟨blk, off, none⟩) n c, .int .i64 s, .int .i64 m, .int .i64 e, .func (.func 52) #[] #[]] w
      fun e' w' => e' = .returned (.tuple #[]) ∧ ST w0 blk off n k8 pl (rotd d0 s m e) w' := by
  have H := Lib.hid h
  have RR := Lib.hid R
  clear h R
  go_enter Try.func93, Try.ntmps93
  go_wp2
  go_loopg [10, 11] (e - s) (fun g vi vj wr => ∃ (i j : Nat) (d : Nat → Int), vi = .int .i64 i ∧ vj = .int .i64 j ∧ 1 ≤ i ∧ 1 ≤ j ∧ i ≤ m - s ∧ j ≤ e - m ∧ i + j ≤ g ∧ Hid (ST w0 blk off n k8 pl d wr ∧ rotd d (m - i) m (m + j) = rotd d0 s m e))
  case atStart =>
    refine ⟨m - s, e - m, d0, by rw [Int.natCast_sub (by omega)], by rw [Int.natCast_sub (by omega)], by omega, by omega, Nat.le_refl _, Nat.le_refl _, by omega, H.out, ?_⟩
    rw [show m - (m - s) = s by omega, show m + (e - m) = e by omega]
  case round =>
    obtain ⟨i, j, d, rfl, rfl, hi1, hj1, him, hjm, hg, HS⟩ := hrel
    rcases Nat.lt_trichotomy i j with hlt | heq | hgt
    · have hb1 : ((i : Int) != (j : Int)) = true := by simp; omega
      have hb2 : decide ((j : Int) < (i : Int)) = false := by simp; omega
      have HC : Hid (Calls Try.prog 98 #[.slice (some ⟨blk, off, none⟩) n c, .int .i64 ((m : Int) - i), .int .i64 ((m : Int) + j - i), .int .i64 i, .func (.func 52) #[] #[]] wr
        fun e w' => e = .returned (.tuple #[]) ∧ ST w0 blk off n k8 pl (swr d (m - i) (m + j - i) i) w') := by
        have := swapr_any w0 wr blk off n k8 RR.out pl d HS.out.1 c (m - i) (m + j - i) i (by omega) (by omega) hn
        rwa [Int.natCast_sub (by omega), Int.natCast_sub (by omega), Int.natCast_add] at this
      have HRO := Lib.hid (rot_right d m i j (by omega) (by omega))
      go_wp2_with (go_at_call 98; refine HC.out.mono ?_; rintro e' w1 ⟨rfl, hs1⟩)
      have HS1 := Lib.hid hs1
      clear hs1 HC
      go_roundg j
      case measure => omega
      case rel => exact ⟨i, j - i, _, rfl, by rw [Int.natCast_sub (by omega)], by omega, by omega, by omega, by omega, by omega, HS1.out, by rw [HRO.out]; exact HS.out.2⟩
    · subst heq
      have hb1 : ((i : Int) != (i : Int)) = false := by simp
      have HC : Hid (Calls Try.prog 98 #[.slice (some ⟨blk, off, none⟩) n c, .int .i64 ((m : Int) - i), .int .i64 m, .int .i64 i, .func (.func 52) #[] #[]] wr
        fun e w' => e = .returned (.tuple #[]) ∧ ST w0 blk off n k8 pl (swr d (m - i) m i) w') := by
        have := swapr_any w0 wr blk off n k8 RR.out pl d HS.out.1 c (m - i) m i (by omega) (by omega) hn
        rwa [Int.natCast_sub (by omega)] at this
      have HRO := Lib.hid (rot_eq d m i (by omega))
      go_wp2_with (go_at_call 98; refine HC.out.mono ?_; rintro e' w1 ⟨rfl, hs1⟩)
      go_end0
      refine ⟨rfl, ?_⟩
      rw [HRO.out, HS.out.2] at hs1
      exact hs1
    · have hb1 : ((i : Int) != (j : Int)) = true := by simp; omega
      have hb2 : decide ((j : Int) < (i : Int)) = true := by simp; omega
      have HC : Hid (Calls Try.prog 98 #[.slice (some ⟨blk, off, none⟩) n c, .int .i64 ((m : Int) - i), .int .i64 m, .int .i64 j, .func (.func 52) #[] #[]] wr
        fun e w' => e = .returned (.tuple #[]) ∧ ST w0 blk off n k8 pl (swr d (m - i) m j) w') := by
        have := swapr_any w0 wr blk off n k8 RR.out pl d HS.out.1 c (m - i) m j (by omega) (by omega) hn
        rwa [Int.natCast_sub (by omega)] at this
      have HRO := Lib.hid (rot_left d m i j (by omega) (by omega))
      go_wp2_with (go_at_call 98; refine HC.out.mono ?_; rintro e' w1 ⟨rfl, hs1⟩)
      have HS1 := Lib.hid hs1
      clear hs1 HC
      go_roundg i
      case measure => omega
      case rel => exact ⟨i - j, j, _, by rw [Int.natCast_sub (by omega)], rfl, by omega, by omega, by omega, by omega, by omega, HS1.out, by rw [HRO.out]; exact HS.out.2⟩
end Go.Proofs.Ytfddhmhagijodaa
