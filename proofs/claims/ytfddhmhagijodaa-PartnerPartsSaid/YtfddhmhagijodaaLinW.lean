/- partner.Lines: the walk. -/
import Derived.Test.YtfddhmhagijodaaBtwW
namespace Go.Proofs.Ytfddhmhagijodaa
open Go.RowKit
set_option linter.unusedSimpArgs false
set_option linter.unusedVariables false

/-- A reference. -/
structure Rf where
  e : Int
  l : Int
deriving DecidableEq, Inhabited
def Rf.cells (r : Rf) : List Value := [.int .i64 r.e, .int .i64 r.l]
theorem Rf.len (r : Rf) : r.cells.length = 2 := rfl
def Plc.ref (p : Plc) : Rf := ⟨p.eid, p.idx⟩
theorem elemRef : ElemOf Try.prog 45 59 (.agg #[.int .i64 0, .int .i64 0]) 2 16 := ⟨Try.underlying45, by kernel_rfl, rfl, by omega⟩
/-- The references of the lines of an entity with a partner. -/
def linesP (date en pt : Int) (l : List Jrn) : List Rf := (btw date en pt l).map Plc.ref
theorem sortPl_len2 (date : Int) (l : List Jrn) (h : ∀ x ∈ l, x.lines.length ≤ 8) : (places date l).length ≤ l.length * 8 := by
  rw [places, sortPl_length]; exact plsAt_len date 8 l 0 h
theorem btw_len (date en pt : Int) (l : List Jrn) (h : ∀ x ∈ l, x.lines.length ≤ 8) : (btw date en pt l).length ≤ l.length * 8 :=
  Nat.le_trans (List.length_filter_le _ _) (sortPl_len2 date l h)
set_option maxRecDepth 100000 in
set_option maxHeartbeats 1000000 in
theorem lines_any (bv : List Value) (hbl : bv.length = 27) (hb1 : ∀ v ∈ bv, v.oneCell' = true) (es : List JV) (ao : Option Addr) (cap b o : Nat) (hbe : bv[21]? = some (.slice ao es.length cap)) (en pt date : Int) (w : World) (H : Jrns w es ao cap b o)
    (hn : es.length ≤ 42) (hm : ∀ e ∈ es, e.x.lines.length ≤ 8) :
    Calls Try.prog 15 #[.agg bv.toArray, .int .i64 en, .int .i64 pt, .int .i64 date] w
      fun e w' => ∃ v, e = .returned v ∧ w'.ownsRow w.heap.size 59 2 v (linesP date en pt (es.map JV.x)).length ((linesP date en pt (es.map JV.x)).flatMap Rf.cells) ∧ Keeps w w' := by
  have HP := Lib.hid (fun W hW => between_any bv hbl hb1 es ao cap b o hbe en pt date W (H.keeps hW) hn hm)
  have hlen := btw_len date en pt (es.map JV.x) (fun x hx => by obtain ⟨e, he, rfl⟩ := List.mem_map.1 hx; exact hm e he)
  rw [List.length_map] at hlen
  obtain ⟨P, hP⟩ : ∃ P, btw date en pt (es.map JV.x) = P := ⟨_, rfl⟩
  have HB : Hid (linesP date en pt (es.map JV.x) = P.map Plc.ref) := Lib.hid (by rw [linesP, hP])
  rw [hP] at HP hlen
  clear hP H hb1 hbe hm
  have hrg := box_range w bv 36
  have hk0 : Keeps w (w.alloc (.cells bv.toArray 36)) := (Keeps.refl w).alloc _
  go_enter Try.func15, Try.ntmps15
  go_wp2_with (first | (refine wpList_books rfl (.tmp 4) rfl w.heap.size bv hbl rfl hrg ?_; clear hrg) | (go_at_call 28; refine (HP.out _ hk0).mono ?_; rintro e w1 ⟨v1, rfl, ho1, hk1⟩; obtain ⟨ao1, cap1, b1, e1, hs1⟩ := Sl.own ho1; subst e1; have HS1 := Lib.hid hs1; have HK1 := Lib.hid (hk0.trans hk1); clear hk1 hk0 ho1))
  have hcap1 := HS1.out.cap
  have hle1 := HS1.out.le
  go_loopw [9, 18] (fun vo vi wr => ∃ k : Nat, k ≤ P.length ∧ vi = .int .i64 k ∧ Hid (Keeps w1 wr ∧ wr.ownsRow w1.heap.size 59 2 vo k (((P.take k).map Plc.ref).flatMap Rf.cells))) (fun _ vi _ => P.length - (intOf vi).toNat)
  case atStart => exact ⟨0, Nat.zero_le _, rfl, Lib.hid ⟨Keeps.refl w1, World.ownsRow_nil _ _ _ _⟩⟩
  case round =>
    obtain ⟨k, hk, rfl, HW⟩ := hrel
    by_cases hlt : k < P.length
    · have hr : Recs wr 8 Plc.cells ao1 P cap1 b1 0 := HS1.out.keeps HW.out.1
      have hix := Sl.at hr Try.underlying72 Try.sizeOf75 k hlt
      obtain ⟨p, hpk⟩ : ∃ p, P[k] = p := ⟨_, rfl⟩
      have c0 := hr.cell Plc.len k hlt 0 (.int .i64 p.eid) (by rw [hpk]; rfl)
      have c1 := hr.cell Plc.len k hlt 1 (.int .i64 p.idx) (by rw [hpk]; rfl)
      have c2 := hr.cell Plc.len k hlt 2 (.int .i64 p.date) (by rw [hpk]; rfl)
      have c3 := hr.cell Plc.len k hlt 3 (.int .i64 p.at_) (by rw [hpk]; rfl)
      have c4 := hr.cell Plc.len k hlt 4 (.int .i64 p.ent) (by rw [hpk]; rfl)
      have c5 := hr.cell Plc.len k hlt 5 (.int .i64 p.acc) (by rw [hpk]; rfl)
      have c6 := hr.cell Plc.len k hlt 6 (.int .i64 p.amt) (by rw [hpk]; rfl)
      have c7 := hr.cell Plc.len k hlt 7 (.int .i64 p.ptn) (by rw [hpk]; rfl)
      simp only [Nat.add_zero, Nat.zero_add] at c0 c1 c2 c3 c4 c5 c6 c7 hix
      have HN : Hid (((P.take k).map Plc.ref).flatMap Rf.cells ++ [.int .i64 p.eid, .int .i64 p.idx] = ((P.take (k + 1)).map Plc.ref).flatMap Rf.cells) := Lib.hid (by
        rw [take_snoc _ k hlt, hpk, List.map_append, List.flatMap_append]; rfl)
      clear hpk hr
      go_wp2_with (at_builtin; refine wpList_appx elemRef rfl _ _ rfl w1 _ _ _ rfl w1.heap.size (HW.out.2.alloc _) (HW.out.1.alloc _) (by have := HW.out.1.size; simp; omega) [.int .i64 p.eid, .int .i64 p.idx] _ 1 rfl (by simp) rfl (by intro u hu; simp at hu; rcases hu with rfl | rfl <;> rfl) (by omega) (by omega) ?_; intro v3 w3 hown3 hb3 hsz3)
      go_roundw
      case rel => exact ⟨k + 1, by omega, by go_num, Lib.hid ⟨hb3, by rw [HN.out] at hown3; exact hown3⟩⟩
      case measure => simp [intOf]; omega
    · obtain rfl : k = P.length := by omega
      go_wp2_with fail
      go_ret
      refine ⟨_, rfl, ?_, HK1.out.trans HW.out.1⟩
      have h := HW.out.2
      rw [List.take_length] at h
      rw [HB.out, List.length_map]
      exact own_baseP h HK1.out.size
end Go.Proofs.Ytfddhmhagijodaa
