/- The comparison of Split, and Go's insertion sort over it: the walks. -/
import Derived.Test.YtppjjmjdiccloaaApp
import Derived.Test.YtppjjmjdiccloaaOrdP
import Derived.Test.YtppjjmjdiccloaaProg
import Derived.Deep.QuietTactic
import Derived.BigQuiet
import Derived.BigRegion
import Derived.Deep.LoopGhost
namespace Go.Proofs.Ytppjjmjdiccloaa
open Go.RowKit

theorem isnan_any (x : Int) (w : World) : Calls Try.prog 34 #[.int .i64 x] w fun e w' => e = .returned (.bool false) ∧ w = w' := by
  have h : (x != x) = false := by simp
  go_enter Try.func34, Try.ntmps34
  go_wp2
  go_ret
  exact ⟨rfl, rfl⟩

theorem compare_any (x y : Int) (w : World) : Calls Try.prog 25 #[.int .i64 x, .int .i64 y] w fun e w' => e = .returned (.int .i64 (cmpI x y)) ∧ w = w' := by
  by_cases h1 : x < y
  · go_enter Try.func25, Try.ntmps25
    go_wp2_with (go_at_call 34; refine (isnan_any _ _).mono ?_; rintro e w' ⟨rfl, rfl⟩)
    go_ret
    exact ⟨ret1 (by rw [cmpI, if_pos h1]), rfl⟩
  · by_cases h2 : y < x
    · go_enter Try.func25, Try.ntmps25
      go_wp2_with (go_at_call 34; refine (isnan_any _ _).mono ?_; rintro e w' ⟨rfl, rfl⟩)
      go_ret
      exact ⟨ret1 (by rw [cmpI, if_neg (by omega), if_pos h2]), rfl⟩
    · go_enter Try.func25, Try.ntmps25
      go_wp2_with (go_at_call 34; refine (isnan_any _ _).mono ?_; rintro e w' ⟨rfl, rfl⟩)
      go_ret
      exact ⟨ret1 (by rw [cmpI, if_neg (by omega), if_neg (by omega)]), rfl⟩

/-- What the comparison reads: its three variables, and the weights. ob: the block of the order. -/
structure SC (w : World) (ob ba bw bs : Nat) (abs sum : Int) (ws : List Int) (ao : Option Addr) (cap b o : Nat) : Prop where
  ha : w.cell? ⟨ba, 0, none⟩ = some (.int .i64 abs)
  hw : w.cell? ⟨bw, 0, none⟩ = some (.slice ao ws.length cap)
  hs : w.cell? ⟨bs, 0, none⟩ = some (.int .i64 sum)
  hS : Sl w 1 ao ws.length cap b o (ws.map (.int .i64))
  na : ba ≠ ob
  nw : bw ≠ ob
  ns : bs ≠ ob
  nb : b ≠ ob

theorem SC.only {w w' : World} {ob ba bw bs : Nat} {abs sum : Int} {ws : List Int} {ao : Option Addr} {cap b o : Nat} (h : SC w ob ba bw bs abs sum ws ao cap b o) (hg : w.grownBy w' (some ob)) : SC w' ob ba bw bs abs sum ws ao cap b o :=
  ⟨hg.cell h.ha (by simp [h.na]), hg.cell h.hw (by simp [h.nw]), hg.cell h.hs (by simp [h.ns]),
   ⟨h.hS.len, h.hS.le, h.hS.nocap, h.hS.cap, h.hS.addr, fun j u hu => hg.cell (h.hS.cell j u hu) (by simp [h.nb])⟩, h.na, h.nw, h.ns, h.nb⟩

/-- The rest of the weight at a place. -/
def rst (abs sum : Int) (ws : List Int) (v : Int) : Int := abs * ws.getD v.toNat 0 % sum

set_option maxHeartbeats 400000 in
theorem closure_any (w : World) (ob ba bw bs : Nat) (abs sum : Int) (ws : List Int) (ao : Option Addr) (cap b o : Nat) (h : SC w ob ba bw bs abs sum ws ao cap b o)
    (ha : 0 ≤ abs ∧ abs ≤ 1000000000000) (hs : 1 ≤ sum) (hws : ∀ x ∈ ws, 0 ≤ x ∧ x ≤ 1000000) (i k : Nat) (hi : i < ws.length) (hk : k < ws.length) :
    Calls Try.prog 24 #[.int .i64 i, .int .i64 k, .pointer (some ⟨ba, 0, none⟩), .pointer (some ⟨bw, 0, none⟩), .pointer (some ⟨bs, 0, none⟩)] w fun e w' => e = .returned (.int .i64 (cmpI (rst abs sum ws k) (rst abs sum ws i))) ∧ ∃ n, w' = w.drewN n := by
  have c0 := h.ha
  have c1 := h.hw
  have c2 := h.hs
  have hcap := h.hS.cap
  have hle := h.hS.le
  have xi := hws _ (List.getElem_mem hi)
  have xk := hws _ (List.getElem_mem hk)
  have bi : 0 ≤ abs * ws[i] ∧ abs * ws[i] ≤ 1000000000000000000 := ⟨Int.mul_nonneg ha.1 xi.1, by
    have := Int.mul_le_mul ha.2 xi.2 xi.1 (by omega)
    omega⟩
  have bk : 0 ≤ abs * ws[k] ∧ abs * ws[k] ≤ 1000000000000000000 := ⟨Int.mul_nonneg ha.1 xk.1, by
    have := Int.mul_le_mul ha.2 xk.2 xk.1 (by omega)
    omega⟩
  have ri : rst abs sum ws i = abs * ws[i] % sum := by rw [rst, Int.toNat_natCast, List.getD_eq_getElem?_getD, List.getElem?_eq_getElem hi]; rfl
  have rk : rst abs sum ws k = abs * ws[k] % sum := by rw [rst, Int.toNat_natCast, List.getD_eq_getElem?_getD, List.getElem?_eq_getElem hk]; rfl
  have hixi := h.hS.at1 Try.underlying22 Try.sizeOf3 i hi
  have hixk := h.hS.at1 Try.underlying22 Try.sizeOf3 k hk
  have hci := h.hS.int i hi
  have hck := h.hS.int k hk
  rw [ri, rk]
  have wi : IntKind.i64.wrap (abs * ws[i]) = abs * ws[i] := by rw [IntKind.wrap_i64]; omega
  have wk : IntKind.i64.wrap (abs * ws[k]) = abs * ws[k] := by rw [IntKind.wrap_i64]; omega
  have ti : (abs * ws[i]).tmod sum = abs * ws[i] % sum := Int.tmod_eq_emod_of_nonneg bi.1
  have tk : (abs * ws[k]).tmod sum = abs * ws[k] % sum := Int.tmod_eq_emod_of_nonneg bk.1
  clear ri rk xi xk
  go_enter Try.func24, Try.ntmps24
  go_wp2
  go_quiet ((go_at_call 25; exact Calls.quiet_of_same ((compare_any _ _ _).mono fun _ _ h => ⟨h.1, h.2.symm⟩)))
  go_wp2
  go_ret
  exact ⟨rfl, _, rfl⟩

/-- The row of block ob holds the numbers d 0 to d (n - 1), and may be written. -/
def Ord (w : World) (ob n : Nat) (d : Nat → Int) : Prop := ∀ i, i < n → w.cell? ⟨ob, i, none⟩ = some (.int .i64 (d i)) ∧ w.frozen? ⟨ob, i, none⟩ = false
theorem Ord.drewN {w : World} {ob n : Nat} {d : Nat → Int} (h : Ord w ob n d) (q : Nat) : Ord (w.drewN q) ob n d := h
theorem only_drewN {a w : World} {row : Option Nat} (h : a.grownBy w row) (n : Nat) : a.grownBy (w.drewN n) row := ⟨h.os, h.tape, h.output, h.size, h.block⟩
theorem only_setCell {a w : World} {g : Nat} (h : a.grownBy w (some g)) {p : Addr} (hp : p.block = g) (u : Value) : a.grownBy (w.setCell p u) (some g) :=
  ⟨h.os, h.tape, h.output, by simpa [World.setCell] using h.size, fun i hi hne => (Below.heap_setCell w p u i (by rintro rfl; exact hne (by rw [hp]))).trans (h.block i hi hne)⟩
theorem Ord.swap {w : World} {ob n : Nat} {d : Nat → Int} (h : Ord w ob n d) (i j : Nat) (hi : i < n) (hj : j < n) :
    Ord ((w.setCell ⟨ob, i, none⟩ (.int .i64 (d j))).setCell ⟨ob, j, none⟩ (.int .i64 (d i))) ob n (swf d i j) := by
  intro k hk
  refine ⟨?_, by rw [World.frozen?_setCell, World.frozen?_setCell]; exact (h k hk).2⟩
  rw [swf_at]
  have hset : (w.setCell ⟨ob, i, none⟩ (.int .i64 (d j))).cell? ⟨ob, j, none⟩ ≠ none := by
    by_cases hij : i = j
    · subst hij; rw [World.cell?_setCell_same _ _ _ (h i hi).1]; simp
    · rw [World.cell?_setCell_other _ _ _ _ (by intro e; simp only [Addr.mk.injEq] at e; omega), (h j hj).1]; simp
  by_cases k1 : k = j
  · subst k1
    rw [if_pos rfl]
    exact World.cell?_setCell_same' _ _ _ (by rw [Option.isSome_iff_ne_none]; exact hset)
  · rw [if_neg k1, World.cell?_setCell_other _ _ _ _ (by simp; try omega)]
    by_cases k2 : k = i
    · subst k2
      rw [if_pos rfl]
      exact World.cell?_setCell_same _ _ _ (h k hk).1
    · rw [if_neg k2, World.cell?_setCell_other _ _ _ _ (by simp; try omega)]
      exact (h k hk).1

/-- The setting of a sort: what the comparison reads; the numbers are places of weights. -/
structure SS (w0 w : World) (ob n ba bw bs : Nat) (abs sum : Int) (ws : List Int) (ao : Option Addr) (cap b o : Nat) (d : Nat → Int) : Prop where
  sc : SC w0 ob ba bw bs abs sum ws ao cap b o
  on : w0.grownBy w (some ob)
  row : Ord w ob n d
  ha : 0 ≤ abs ∧ abs ≤ 1000000000000
  hs : 1 ≤ sum
  hws : ∀ x ∈ ws, 0 ≤ x ∧ x ≤ 1000000
  hn : n = ws.length
  inr : ∀ i, i < n → 0 ≤ d i ∧ d i < n

theorem SS.cmp {w0 w : World} {ob n ba bw bs : Nat} {abs sum : Int} {ws : List Int} {ao : Option Addr} {cap b o : Nat} {d : Nat → Int} (h : SS w0 w ob n ba bw bs abs sum ws ao cap b o d) (i j : Nat) (hi : i < n) (hj : j < n) (q : Nat) :
    Calls Try.prog 24 #[.int .i64 (d i), .int .i64 (d j), .pointer (some ⟨ba, 0, none⟩), .pointer (some ⟨bw, 0, none⟩), .pointer (some ⟨bs, 0, none⟩)] (w.drewN q) fun e w' => e = .returned (.int .i64 (cmpI (rst abs sum ws (d j)) (rst abs sum ws (d i)))) ∧ ∃ m, w' = (w.drewN q).drewN m := by
  have h1 := h.inr i hi
  have h2 := h.inr j hj
  have hn := h.hn
  have := closure_any (w.drewN q) ob ba bw bs abs sum ws ao cap b o (h.sc.only (only_drewN h.on q)) h.ha h.hs h.hws (d i).toNat (d j).toNat (by omega) (by omega)
  rw [Int.toNat_of_nonneg h1.1, Int.toNat_of_nonneg h2.1] at this
  exact this

theorem SS.swap {w0 w : World} {ob n ba bw bs : Nat} {abs sum : Int} {ws : List Int} {ao : Option Addr} {cap b o : Nat} {d : Nat → Int} (h : SS w0 w ob n ba bw bs abs sum ws ao cap b o d) (i j : Nat) (hi : i < n) (hj : j < n) (q : Nat) :
    SS w0 (((w.setCell ⟨ob, i, none⟩ (.int .i64 (d j))).setCell ⟨ob, j, none⟩ (.int .i64 (d i))).drewN q) ob n ba bw bs abs sum ws ao cap b o (swf d i j) :=
  ⟨h.sc, only_drewN (only_setCell (only_setCell h.on rfl _) rfl _) q, (h.row.swap i j hi hj).drewN q, h.ha, h.hs, h.hws, h.hn, fun k hk => by
    rw [swf_at]
    split
    · exact h.inr i hi
    · split
      · exact h.inr j hj
      · exact h.inr k hk⟩
theorem SS.drewN {w0 w : World} {ob n ba bw bs : Nat} {abs sum : Int} {ws : List Int} {ao : Option Addr} {cap b o : Nat} {d : Nat → Int} (h : SS w0 w ob n ba bw bs abs sum ws ao cap b o d) (q : Nat) :
    SS w0 (w.drewN q) ob n ba bw bs abs sum ws ao cap b o d := ⟨h.sc, only_drewN h.on q, h.row.drewN q, h.ha, h.hs, h.hws, h.hn, h.inr⟩

theorem rowAt {P : Program} {t e : TypeId} (ht : P.underlying t = some (.slice e)) (hz : ∀ w, (sizeOf e).run P w = .ok 1 w) (g n c k : Nat) (hk : k < n) :
    ∀ w', (Instr.indexAt t (.slice (some ⟨g, 0, none⟩) n c) (.int .i64 (k : Int))).run P w' = .ok (.pointer (some ⟨g, k, none⟩)) w' := by
  intro w'
  have h1 : ((⟨g, 0, none⟩ : Addr).add (k * 1)) = ⟨g, k, none⟩ := by rw [Addr.add_lit]; simp
  have he : P.elem t = e := by simp [Program.elem, ht]
  rw [run_indexAt_slice _ _ _ _ _ _ _ (by rw [he]; exact ht), if_pos (by omega), he, hz, Result.andThen_ok, Int.toNat_natCast, h1]

set_option maxHeartbeats 1000000 in
theorem insertion_any (w0 w : World) (ob n ba bw bs : Nat) (abs sum : Int) (ws : List Int) (ao : Option Addr) (cap b o : Nat) (d0 : Nat → Int) (h : SS w0 w ob n ba bw bs abs sum ws ao cap b o d0) (c : Nat)
    (lo hi : Nat) (hlh : lo ≤ hi) (hhn : hi ≤ n) (hn : n ≤ 100000) (hid : ∀ i, lo ≤ i → i < hi → d0 i = i) :
    Calls Try.prog 39 #[.slice (some ⟨ob, 0, none⟩) n c, .int .i64 lo, .int .i64 hi, .func (.func 24) #[] #[.pointer (some ⟨ba, 0, none⟩), .pointer (some ⟨bw, 0, none⟩), .pointer (some ⟨bs, 0, none⟩)]] w
      fun e w' => e = .returned (.tuple #[]) ∧ ∃ d, SS w0 w' ob n ba bw bs abs sum ws ao cap b o d ∧ Srt (rst abs sum ws) d lo hi ∧ Same lo hi d0 d := by
  have H := Lib.hid h
  have HI := Lib.hid hid
  clear h hid
  go_enter Try.func39, Try.ntmps39
  go_wp2
  go_loopg [8] (hi - lo) (fun g vi wr => ∃ (i : Nat) (d : Nat → Int), vi = .int .i64 i ∧ lo < i ∧ hi - i ≤ g ∧ Hid (SS w0 wr ob n ba bw bs abs sum ws ao cap b o d ∧ Out (rst abs sum ws) d0 d lo hi i))
  case atStart => exact ⟨lo + 1, d0, by go_num, by omega, by omega, ⟨H.out, Out.start HI.out⟩⟩
  case round =>
    obtain ⟨i, d, rfl, hli, hg, HS⟩ := hrel
    by_cases hlt : i < hi
    · go_wp2
      go_loopg [9] i (fun g2 vj wr2 => ∃ (j : Nat) (dj : Nat → Int), vj = .int .i64 j ∧ lo ≤ j ∧ j ≤ i ∧ j ≤ g2 ∧ Hid (SS w0 wr2 ob n ba bw bs abs sum ws ao cap b o dj ∧ Inn (rst abs sum ws) d0 dj lo hi i j))
      case atStart => exact ⟨i, d, rfl, by omega, Nat.le_refl _, Nat.le_refl _, ⟨HS.out.1, HS.out.2.inner hlt⟩⟩
      case round =>
        clear HS
        obtain ⟨j, dj, rfl, haj, hji, hg2, HJ⟩ := hrel
        by_cases hja : lo < j
        · obtain ⟨jp, rfl⟩ : ∃ q, j = q + 1 := ⟨j - 1, by omega⟩
          have hin : jp + 1 < n := by omega
          have hc0 := (HJ.out.1.row (jp + 1) hin).1
          have hc1 := (HJ.out.1.row jp (by omega)).1
          have hcmp := fun q => HJ.out.1.cmp (jp + 1) jp hin (by omega) q
          have HC := Lib.hid hcmp
          clear hcmp
          have hjad : decide ((lo : Int) < (jp : Int) + 1) = true := by simp; omega
          have hix0 := rowAt (P := Try.prog) Try.underlying22 Try.sizeOf3 ob n c jp (by omega)
          have hix1 := rowAt (P := Try.prog) Try.underlying22 Try.sizeOf3 ob n c (jp + 1) hin
          rw [Int.natCast_add, Int.natCast_one] at hix1
          have hwr : IntKind.i64.wrap ((jp : Int) + 1 - 1) = (jp : Int) := by rw [IntKind.wrap_i64]; omega
          have hwr' : IntKind.i64.wrap (jp : Int) = (jp : Int) := by rw [IntKind.wrap_i64]; omega
          cases hlv : decide (cmpI (rst abs sum ws (dj jp)) (rst abs sum ws (dj (jp + 1))) < 0) with
          | true =>
            have hc : cmpI (rst abs sum ws (dj jp)) (rst abs sum ws (dj (jp + 1))) < 0 := of_decide_eq_true hlv
            have hf0 := (HJ.out.1.row jp (by omega)).2
            have hf1 := (HJ.out.1.row (jp + 1) hin).2
            have HN := Lib.hid hc
            clear hc
            go_wp2
            go_quiet ((go_at_call 24; exact Calls.quiet_of (HC.out _)))
            go_wp2_with fail
            have SQ := Lib.hid (HJ.out.1.drewN nq)
            obtain ⟨wq, hwq⟩ : ∃ wq, wr.drewN nq = wq := ⟨_, rfl⟩
            rw [hwq] at SQ ⊢
            have cq0 := (SQ.out.row jp (by omega)).1
            have cq1 := (SQ.out.row (jp + 1) hin).1
            have fq0 := (SQ.out.row jp (by omega)).2
            have fq1 := (SQ.out.row (jp + 1) hin).2
            have cs1 : (wq.setCell ⟨ob, jp + 1, none⟩ (.int .i64 (dj jp))).cell? ⟨ob, jp, none⟩ = some (.int .i64 (dj jp)) := by
              rw [World.cell?_setCell_other _ _ _ _ (by simp)]; exact cq0
            have cs2 : (wq.setCell ⟨ob, jp, none⟩ (.int .i64 (dj (jp + 1)))).cell? ⟨ob, jp + 1, none⟩ = some (.int .i64 (dj (jp + 1))) := by
              rw [World.cell?_setCell_other _ _ _ _ (by simp)]; exact cq1
            clear hwq hc0 hc1 hf0 hf1 HC
            go_region
            have SW := Lib.hid (SQ.out.swap (jp + 1) jp hin (by omega) 1)
            have IW := Lib.hid (HJ.out.2.step (by omega) hji hlt HN.out)
            clear SQ HJ cs1 cs2 cq0 cq1 fq0 fq1 hix0 hix1
            go_wp2
            go_roundg jp
            case measure => omega
            case rel => exact ⟨jp, swf dj (jp + 1) jp, by go_num, by omega, by omega, by omega, ⟨SW.out, IW.out⟩⟩
          | false =>
            have hc : ¬ cmpI (rst abs sum ws (dj jp)) (rst abs sum ws (dj (jp + 1))) < 0 := of_decide_eq_false hlv
            have HO : Hid (Out (rst abs sum ws) d0 dj lo hi (i + 1)) := HJ.out.2.done (by omega) hji (.inr hc)
            clear hc
            go_wp2
            go_quiet ((go_at_call 24; exact Calls.quiet_of (HC.out _)))
            go_wp2_with fail
            go_roundg (hi - (i + 1))
            case measure => omega
            case rel => exact ⟨i + 1, dj, by go_num, by omega, by omega, ⟨HJ.out.1.drewN _, HO.out⟩⟩
        · have HO : Hid (Out (rst abs sum ws) d0 dj lo hi (i + 1)) := HJ.out.2.done (by omega) hji (.inl (by omega))
          have hjad : decide ((lo : Int) < (j : Int)) = false := by simp; omega
          go_wp2
          go_quiet (fail)
          go_wp2_with fail
          go_roundg (hi - (i + 1))
          case measure => omega
          case rel => exact ⟨i + 1, dj, by go_num, by omega, by omega, ⟨HJ.out.1.drewN _, HO.out⟩⟩
    · go_wp2
      go_end0
      obtain ⟨h1, h2⟩ := HS.out
      exact ⟨rfl, d, h1, fun k l k1 k2 k3 => h2.srt k l k1 k2 (by omega), h2.same⟩
end Go.Proofs.Ytppjjmjdiccloaa
