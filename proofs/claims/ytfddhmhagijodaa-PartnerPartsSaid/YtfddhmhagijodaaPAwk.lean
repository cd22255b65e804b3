/- The example of the document (partner): the walks; The example of the document (partner): its books: the walk. -/
import Derived.Test.YtfddhmhagijodaaNetW
import Derived.Deep.MidRow
namespace Go.Proofs.Ytfddhmhagijodaa
open Go.RowKit
set_option linter.unusedSimpArgs false
set_option linter.unusedVariables false

theorem neqRef (a b : Int) (w : World) : (binOp .neq 59 (.agg #[.int .i64 a, .int .i64 b]) (.agg #[.int .i64 a, .int .i64 b])).run Try.prog w = .ok (.bool false) w := by
  go_simp
theorem neqBalN (a b : Int) (w : World) : (binOp .neq 52 (.agg #[.int .i64 a, .int .i64 b]) (.agg #[.int .i64 a, .int .i64 b])).run Try.prog w = .ok (.bool false) w := by
  go_simp
set_option maxRecDepth 100000 in
set_option maxHeartbeats 1000000 in
theorem samer_any (l : List Rf) (ao ao2 : Option Addr) (cap b o cap2 b2 o2 : Nat) (w : World) (H : Recs w 2 Rf.cells ao l cap b o) (H2 : Recs w 2 Rf.cells ao2 l cap2 b2 o2) :
    Calls Try.prog 16 #[.slice ao l.length cap, .slice ao2 l.length cap2] w fun e w' => Gives w (.bool true) e w' := by
  have hcap := Sl.cap H
  have hle := Sl.le H
  have hcap2 := Sl.cap H2
  have hle2 := Sl.le H2
  have hneq := neqRef
  go_enter Try.func16, Try.ntmps16
  go_wp2_with fail
  go_loopw [5] (fun vi wr => ∃ k q : Nat, k ≤ l.length ∧ vi = .int .i64 k ∧ wr = w.drewN q) (fun vi _ => l.length - (intOf vi).toNat)
  case atStart => exact ⟨0, 0, Nat.zero_le _, rfl, rfl⟩
  case round =>
    obtain ⟨k, q, hk, rfl, rfl⟩ := hrel
    by_cases hlt : k < l.length
    · have hix := Sl.at H Try.underlying45 Try.sizeOf59 k hlt
      have c0 := H.cell Rf.len k hlt 0 _ rfl
      have c1 := H.cell Rf.len k hlt 1 _ rfl
      have hix2 := Sl.at H2 Try.underlying45 Try.sizeOf59 k hlt
      have d0 := H2.cell Rf.len k hlt 0 _ rfl
      have d1 := H2.cell Rf.len k hlt 1 _ rfl
      simp only [Nat.add_zero] at c0 d0
      go_wp2_with fail
      go_quiet (fail)
      go_wp2_with fail
      go_roundw
      case rel => exact ⟨k + 1, _, by omega, by go_num, rfl⟩
      case measure => simp [intOf]; omega
    · go_wp2
      go_ret
      exact ⟨rfl, _, rfl⟩
set_option maxRecDepth 100000 in
set_option maxHeartbeats 1000000 in
theorem samen_any (l : List Bal) (ao ao2 : Option Addr) (cap b o cap2 b2 o2 : Nat) (w : World) (H : Recs w 2 Bal.cells ao l cap b o) (H2 : Recs w 2 Bal.cells ao2 l cap2 b2 o2) :
    Calls Try.prog 12 #[.slice ao l.length cap, .slice ao2 l.length cap2] w fun e w' => Gives w (.bool true) e w' := by
  have hcap := Sl.cap H
  have hle := Sl.le H
  have hcap2 := Sl.cap H2
  have hle2 := Sl.le H2
  have hneq := neqBalN
  go_enter Try.func12, Try.ntmps12
  go_wp2_with fail
  go_loopw [5] (fun vi wr => ∃ k q : Nat, k ≤ l.length ∧ vi = .int .i64 k ∧ wr = w.drewN q) (fun vi _ => l.length - (intOf vi).toNat)
  case atStart => exact ⟨0, 0, Nat.zero_le _, rfl, rfl⟩
  case round =>
    obtain ⟨k, q, hk, rfl, rfl⟩ := hrel
    by_cases hlt : k < l.length
    · have hix := Sl.at H Try.underlying42 Try.sizeOf52 k hlt
      have c0 := H.cell Bal.len k hlt 0 _ rfl
      have c1 := H.cell Bal.len k hlt 1 _ rfl
      have hix2 := Sl.at H2 Try.underlying42 Try.sizeOf52 k hlt
      have d0 := H2.cell Bal.len k hlt 0 _ rfl
      have d1 := H2.cell Bal.len k hlt 1 _ rfl
      simp only [Nat.add_zero] at c0 d0
      go_wp2_with fail
      go_quiet (fail)
      go_wp2_with fail
      go_roundw
      case rel => exact ⟨k + 1, _, by omega, by go_num, rfl⟩
      case measure => simp [intOf]; omega
    · go_wp2
      go_ret
      exact ⟨rfl, _, rfl⟩
theorem there_newP (w : World) (t : TypeId) (vs : List Value) : (w.alloc (.cells vs.toArray t)).there w.heap.size 0 vs.length := fun j hj => by
  rw [Nat.zero_add]
  have hh := heap_alloc_new w (.cells vs.toArray t)
  exact ⟨by rw [cell_of_row _ w.heap.size j vs.toArray t (0, 0) hh]; simp [hj], frozen_of_row _ w.heap.size j vs.toArray t hh⟩
theorem results_cell_midP {P : Program} {fn : Func} {p : Tmp} {ty : TypeId} (h : fn.results = #[.cell p ty]) (tmps : Array Value) (w : World) (g : Nat) (cs : List Value) (d : TypeDesc)
    (hp : tmps.getD p undef = .pointer (some ⟨g, 0, none⟩)) (hc : w.rangeAt g 0 cs) (hu : P.underlying ty = some d) (hd : d.isRow = true) (hi : (P.info? ty).map (·.size) = some cs.length) :
    (results fn tmps).run P w = .ok (.agg cs.toArray) w := by
  have hp' : tmps[p]?.getD undef = .pointer (some ⟨g, 0, none⟩) := by simpa using hp
  simp [results, h, hp', asAddr, run_loadVar_mid w g 0 ty cs d hc hu hd hi]
theorem keeps_setCellsP {a : World} {B : Nat} (hB : a.heap.size ≤ B) : ∀ (vs : List Value) (o : Nat) (b : World), Keeps a b → Keeps a (b.setCells B o vs)
  | [], _, _, h => h
  | v :: vs, o, b, h => keeps_setCellsP hB vs (o + 1) _ (h.setCell (p := ⟨B, o, none⟩) hB v)
theorem range_setCells {w : World} {B p b o : Nat} {cs : List Value} (h : w.rangeAt b o cs) (hb : b ≠ B) (vs : List Value) : (w.setCells B p vs).rangeAt b o cs := fun j v hv => by
  rw [World.cell?_setCells_out B vs p w ⟨b, o + j, none⟩ (fun e => absurd e hb)]
  exact h j v hv
theorem there_keeps {w w' : World} {b o n : Nat} (h : w.there b o n) (k : Keeps w w') : w'.there b o n := fun j hj => by
  obtain ⟨h1, h2⟩ := h j hj
  obtain ⟨v, hv⟩ := Option.isSome_iff_exists.1 h1
  exact ⟨by rw [k.cell hv]; rfl, k.frz hv h2⟩
/-- The cells of books with entries and matches alone. -/
def bkC (es ms : Value) : List Value := [.string ⟨#[]⟩, .int .i64 0, .int .i64 0, .int .i64 0, .slice none 0 0, .int .i64 0, .int .i64 0, .int .i64 0, .int .i64 0, .int .i64 0, .int .i64 0, .int .i64 0, .int .i64 0, .int .i64 0, .int .i64 0, .int .i64 0, .int .i64 0, .int .i64 0, .int .i64 0, .int .i64 0, .slice none 0 0, es, .slice none 0 0, .slice none 0 0, ms, .slice none 0 0, .string ⟨#[]⟩]
theorem bkC_len (es ms : Value) : (bkC es ms).length = 27 := rfl
theorem bkC_one (es ms : Value) (h1 : es.oneCell' = true) (h2 : ms.oneCell' = true) : ∀ v ∈ bkC es ms, v.oneCell' = true := by
  intro v hv
  simp only [bkC, List.mem_cons, List.not_mem_nil, or_false] at hv
  repeat (rcases hv with rfl | hv; · first | rfl | assumption)
  try (subst hv; rfl)
theorem sl_setCells {w : World} {sz : Nat} {ao : Option Addr} {n cap b o B : Nat} {cs : List Value} (h : Sl w sz ao n cap b o cs) (hb : b ≠ B) (vs : List Value) (p : Nat) : Sl (w.setCells B p vs) sz ao n cap b o cs :=
  ⟨h.len, h.le, h.nocap, h.cap, h.addr, fun j u hu => by
    rw [World.cell?_setCells_out B vs p w ⟨b, o + j, none⟩ (fun e => absurd e hb)]
    exact h.cell j u hu⟩
theorem Jrns.setCells {w : World} {es : List JV} {ao : Option Addr} {cap b o B : Nat} (h : Jrns w es ao cap b o) (hb : b ≠ B) (he : ∀ e ∈ es, e.b ≠ B) (vs : List Value) (p : Nat) : Jrns (w.setCells B p vs) es ao cap b o :=
  ⟨sl_setCells h.row hb vs p, fun e hm => sl_setCells (h.lines e hm) (he e hm) vs p⟩
def exE : Jrn := ⟨5, 1, 3, 0, 0, ⟨#[]⟩, [⟨20, 70, 0⟩, ⟨100, -70, 0⟩]⟩
end Go.Proofs.Ytfddhmhagijodaa

namespace Go.Proofs.Ytfddhmhagijodaa
open Go.RowKit
set_option linter.unusedSimpArgs false
set_option linter.unusedVariables false

set_option maxRecDepth 100000 in
set_option maxHeartbeats 1000000 in
theorem example_any (w : World) : Calls Try.prog 27 #[] w fun e w' => ∃ ao b y, e = .returned (.agg (bkC (.slice ao 1 1) (.slice none 0 0)).toArray) ∧ Jrns w' [y] ao 1 b 0 ∧ y.x = exE ∧ Keeps w w' := by
  obtain ⟨W1, hW1⟩ : ∃ W1, w.alloc (.cells (bkC (.slice none 0 0) (.slice none 0 0)).toArray 36) = W1 := ⟨_, rfl⟩
  have hz1 : W1.heap.size = w.heap.size + 1 := by rw [← hW1]; simp
  have hk1 : Keeps w W1 := by rw [← hW1]; exact (Keeps.refl w).alloc _
  have ht1 : W1.there w.heap.size 0 27 := by rw [← hW1]; exact there_newP w _ (bkC (.slice none 0 0) (.slice none 0 0))
  have hL := Sl.lit W1 3 2 [.int .i64 20, .int .i64 70, .int .i64 0, .int .i64 100, .int .i64 (-70), .int .i64 0] 56 rfl (by omega)
  obtain ⟨W2, hW2⟩ : ∃ W2, W1.alloc (.cells #[.int .i64 20, .int .i64 70, .int .i64 0, .int .i64 100, .int .i64 (-70), .int .i64 0] 56) = W2 := ⟨_, rfl⟩
  have hz2 : W2.heap.size = w.heap.size + 1 + 1 := by rw [← hW2]; simp [hz1]
  have hk2 : Keeps W1 W2 := by rw [← hW2]; exact (Keeps.refl W1).alloc _
  rw [show W1.alloc (.cells [.int .i64 20, .int .i64 70, .int .i64 0, .int .i64 100, .int .i64 (-70), .int .i64 0].toArray 56) = W2 from hW2, hz1] at hL
  have hE := Sl.lit W2 7 1 [.int .i64 5, .int .i64 1, .int .i64 3, .int .i64 0, .int .i64 0, .string ⟨#[]⟩, .slice (some ⟨w.heap.size + 1, 0, none⟩) 2 2] 50 rfl (by omega)
  obtain ⟨W3, hW3⟩ : ∃ W3, W2.alloc (.cells #[.int .i64 5, .int .i64 1, .int .i64 3, .int .i64 0, .int .i64 0, .string ⟨#[]⟩, .slice (some ⟨w.heap.size + 1, 0, none⟩) 2 2] 50) = W3 := ⟨_, rfl⟩
  have hk3 : Keeps W2 W3 := by rw [← hW3]; exact (Keeps.refl W2).alloc _
  rw [show W2.alloc (.cells [.int .i64 5, .int .i64 1, .int .i64 3, .int .i64 0, .int .i64 0, .string ⟨#[]⟩, .slice (some ⟨w.heap.size + 1, 0, none⟩) 2 2].toArray 50) = W3 from hW3, hz2] at hE
  have ht3 := there_keeps ht1 (hk2.trans hk3)
  have HS : Hid (∀ W, Keeps W3 W → Jrns W [⟨exE, some ⟨w.heap.size + 1, 0, none⟩, 2, w.heap.size + 1, 0⟩] (some ⟨w.heap.size + 1 + 1, 0, none⟩) 1 (w.heap.size + 1 + 1) 0) := Lib.hid (fun W hW => ⟨hE.keeps hW, fun e he => by
    rw [List.mem_singleton] at he; subst he; exact hL.keeps (hk3.trans hW)⟩)
  clear hE hL
  go_enter Try.func27, Try.ntmps27
  go_wp2_with ((refine wpList_store_mid rfl 36 _ _ rfl w.heap.size 0 (bkC (.slice (some ⟨w.heap.size + 1 + 1, 0, none⟩) 1 1) (.slice none 0 0)).toArray rfl rfl (by rw [← hW3, ← hW2, ← hW1] at ht3; exact ht3) booksSize (all_oneCell_toArray (bkC_one _ _ rfl rfl)) ?_))
  subst hW1 hW2 hW3
  refine bodyPost_ret (results_cell_midP rfl _ _ w.heap.size (bkC (.slice (some ⟨w.heap.size + 1 + 1, 0, none⟩) 1 1) (.slice none 0 0)) _ rfl (World.rangeAt_setCells_same _ _ _ _ ht3) Try.underlying36 rfl booksSize) rfl ?_
  exact ⟨_, _, _, rfl, (HS.out _ (Keeps.refl _)).setCells (by omega) (fun e he => by rw [List.mem_singleton] at he; subst he; show w.heap.size + 1 ≠ w.heap.size; omega) _ _, rfl, keeps_setCellsP (Nat.le_refl _) _ _ _ (hk1.trans (hk2.trans hk3))⟩
theorem exE_lines : linesP 3 1 0 [exE] = [⟨5, 0⟩, ⟨5, 1⟩] := by decide +kernel
theorem exE_btw : btw 3 1 0 [exE] = [⟨5, 0, 3, 0, 1, 20, 70, 0⟩, ⟨5, 1, 3, 0, 1, 100, -70, 0⟩] := by decide +kernel
theorem exE_net {l : List Bal} (h : NetZ (btw 3 1 0 [exE]) l) : l.length = 2 := by
  have h2 : NetZ (btw 3 1 0 [exE]) [⟨20, 70⟩, ⟨100, -70⟩] := by
    rw [exE_btw]
    refine ⟨by unfold AscN; simp, fun x => ?_⟩
    obtain ⟨a, n⟩ := x
    simp only [tot, List.mem_cons, List.not_mem_nil, or_false, Bal.mk.injEq]
    unfold wr64
    constructor
    · rintro (⟨rfl, rfl⟩ | ⟨rfl, rfl⟩) <;> decide
    · rintro ⟨h1, h2⟩
      by_cases e1 : 20 = a
      · subst e1; left; refine ⟨rfl, ?_⟩; rw [h2]; decide
      · by_cases e2 : 100 = a
        · subst e2; right; refine ⟨rfl, ?_⟩; rw [h2]; decide
        · rw [if_neg e1, if_neg e2] at h2; exact absurd h2 h1
  rw [netz_ext h h2 (fun _ => rfl)]; rfl
theorem exE_ok : exE.Ok := by
  refine ⟨by unfold I64; decide, by unfold I64; decide, by unfold I64; decide, by unfold I64; decide, by unfold I64; decide, ?_⟩
  intro l hl
  simp only [exE, List.mem_cons, List.not_mem_nil, or_false] at hl
  rcases hl with rfl | rfl <;> (refine ⟨?_, ?_, ?_⟩ <;> (unfold I64; decide))
/-- What the law's example needs: the lines and the sums of its books. -/
theorem exE_calls (W : World) (ao : Option Addr) (b : Nat) (y : JV) (h : Jrns W [y] ao 1 b 0) (hy : y.x = exE) :
    (Calls Try.prog 15 #[.agg (bkC (.slice ao 1 1) (.slice none 0 0)).toArray, .int .i64 1, .int .i64 0, .int .i64 3] W fun e w' => ∃ ao2 cap2 b2, e = .returned (.slice ao2 2 cap2) ∧ Recs w' 2 Rf.cells ao2 [⟨5, 0⟩, ⟨5, 1⟩] cap2 b2 0 ∧ Keeps W w') ∧
    (Calls Try.prog 13 #[.agg (bkC (.slice ao 1 1) (.slice none 0 0)).toArray, .int .i64 1, .int .i64 0, .int .i64 3] W fun e w' => ∃ ao2 cap2, e = .returned (.slice ao2 2 cap2) ∧ cap2 ≤ 9223372036854775807 ∧ Keeps W w') := by
  have hx : List.map JV.x [y] = [exE] := by rw [List.map_singleton, hy]
  have hl8 : ∀ e ∈ [y], e.x.lines.length ≤ 8 := fun e he => by rw [List.mem_singleton] at he; subst he; rw [hy]; decide
  constructor
  · refine (lines_any (bkC (.slice ao 1 1) (.slice none 0 0)) rfl (bkC_one _ _ rfl rfl) [y] ao 1 b 0 rfl 1 0 3 W h (by simp) hl8).mono ?_
    rintro e w' ⟨v, rfl, ho, hk⟩
    rw [hx, exE_lines] at ho
    obtain ⟨ao2, cap2, b2, rfl, hs⟩ := Sl.own ho
    exact ⟨ao2, cap2, b2, rfl, hs, hk⟩
  · refine (net_any (bkC (.slice ao 1 1) (.slice none 0 0)) rfl (bkC_one _ _ rfl rfl) [y] ao 1 b 0 rfl 1 0 3 W h (by simp) hl8 (fun e he => by rw [List.mem_singleton] at he; subst he; rw [hy]; exact exE_ok)).mono ?_
    rintro e w' ⟨v, l, rfl, hn, ho, hk, _⟩
    rw [hx] at hn
    rw [exE_net hn] at ho
    obtain ⟨ao2, cap2, b2, rfl, hs⟩ := Sl.own ho
    exact ⟨ao2, cap2, rfl, hs.cap, hk⟩
set_option maxRecDepth 100000 in
set_option maxHeartbeats 1000000 in
theorem pawake_any (w : World) : Calls Try.prog 10 #[] w fun e w' => e = .returned (.bool true) ∧ Keeps w w' := by
  go_enter Try.func10, Try.ntmps10
  go_wp2_with (first | (go_at_call 15; refine (exE_calls _ _ _ _ hj1 hy1).1.mono ?_; rintro e w2 ⟨ao2, cap2, b2, rfl, hs2, hk2⟩) | (go_at_call 16; refine (samer_any [⟨5, 0⟩, ⟨5, 1⟩] _ _ _ b2 0 _ w2.heap.size 0 _ (hs2.keeps ((Keeps.refl w2).alloc _)) (Sl.lit w2 2 2 [.int .i64 5, .int .i64 0, .int .i64 5, .int .i64 1] 59 rfl (by omega))).mono ?_; rintro e w3 ⟨rfl, q3, rfl⟩; clear hj1 hy1) | (go_at_call 13; refine (exE_calls _ _ _ _ hj4 hy4).2.mono ?_; rintro e w5 ⟨ao5, cap5, rfl, hc5, hk5⟩) | (go_at_call 27; first | (guard_hyp hs2 : _; refine (example_any _).mono ?_; rintro e w4 ⟨ao4, b4, y4, rfl, hj4, hy4, hk4⟩) | (refine (example_any _).mono ?_; rintro e w1 ⟨ao1, b1, y1, rfl, hj1, hy1, hk1⟩)))
  go_ret
  exact ⟨rfl, (hk1.trans (hk2.trans (((Keeps.refl w2).alloc _).drewN _))).trans (hk4.trans hk5)⟩
end Go.Proofs.Ytfddhmhagijodaa
