/- The example of the document (partner): the walks. -/
import Derived.Test.YtfddhmhagijodaaNetW
import Derived.Deep.MidRow
namespace Go.Proofs.Ytfddhmhagijodaa
open Go.RowKit
set_option linter.unusedSimpArgs false
set_option linter.unusedVariables false

theorem neqRef (a b : Int) (w : World) : (binOp .neq 59 (.agg #[.int .i64 a, .int .i64 b]) (.agg #[.int .i64 a, .int .i64 b])).run Try.prog w = .ok (.bool false) w := by
  go_simp
theorem neqBalN (a b : Int) (w : World) : (binOp .neq 52 (.agg #[.int .i64 a, .int .i64 b]) (.agg #[.int .i64 a, .int .i64 b])).run Try.prog w = .ok (.bool false) w := by
  go_simp
set_option maxRecDepth 100000 in
set_option maxHeartbeats 1000000 in
theorem samer_any (l : List Rf) (ao ao2 : Option Addr) (cap b o cap2 b2 o2 : Nat) (w : World) (H : Recs w 2 Rf.cells ao l cap b o) (H2 : Recs w 2 Rf.cells ao2 l cap2 b2 o2) :
    Calls Try.prog 16 #[.slice ao l.length cap, .slice ao2 l.length cap2] w fun e w' => Gives w (.bool true) e w' := by
  have hcap := Sl.cap H
  have hle := Sl.le H
  have hcap2 := Sl.cap H2
  have hle2 := Sl.le H2
  have hneq := neqRef
  go_enter Try.func16, Try.ntmps16
  go_wp2_with fail
  go_loopw [5] (fun vi wr => ∃ k q : Nat, k ≤ l.length ∧ vi = .int .i64 k ∧ wr = w.drewN q) (fun vi _ => l.length - (intOf vi).toNat)
  case atStart => exact ⟨0, 0, Nat.zero_le _, rfl, rfl⟩
  case round =>
    obtain ⟨k, q, hk, rfl, rfl⟩ := hrel
    by_cases hlt : k < l.length
    · have hix := Sl.at H Try.underlying45 Try.sizeOf59 k hlt
      have c0 := H.cell Rf.len k hlt 0 _ rfl
      have c1 := H.cell Rf.len k hlt 1 _ rfl
      have hix2 := Sl.at H2 Try.underlying45 Try.sizeOf59 k hlt
      have d0 := H2.cell Rf.len k hlt 0 _ rfl
      have d1 := H2.cell Rf.len k hlt 1 _ rfl
      simp only [Nat.add_zero] at c0 d0
      go_wp2_with fail
      go_quiet (fail)
      go_wp2_with fail
      go_roundw
      case rel => exact ⟨k + 1, _, by omega, by go_num, rfl⟩
      case measure => simp [intOf]; omega
    · go_wp2
      go_ret
      exact ⟨rfl, _, rfl⟩
set_option maxRecDepth 100000 in
set_option maxHeartbeats 1000000 in
theorem samen_any (l : List Bal) (ao ao2 : Option Addr) (cap b o cap2 b2 o2 : Nat) (w : World) (H : Recs w 2 Bal.cells ao l cap b o) (H2 : Recs w 2 Bal.cells ao2 l cap2 b2 o2) :
    Calls Try.prog 12 #[.slice ao l.length cap, .slice ao2 l.length cap2] w fun e w' => Gives w (.bool true) e w' := by
  have hcap := Sl.cap H
  have hle := Sl.le H
  have hcap2 := Sl.cap H2
  have hle2 := Sl.le H2
  have hneq := neqBalN
  go_enter Try.func12, Try.ntmps12
  go_wp2_with fail
  go_loopw [5] (fun vi wr => ∃ k q : Nat, k ≤ l.length ∧ vi = .int .i64 k ∧ wr = w.drewN q) (fun vi _ => l.length - (intOf vi).toNat)
  case atStart => exact ⟨0, 0, Nat.zero_le _, rfl, rfl⟩
  case round =>
    obtain ⟨k, q, hk, rfl, rfl⟩ := hrel
    by_cases hlt : k < l.length
    · have hix := Sl.at H Try.underlying42 Try.sizeOf52 k hlt
      have c0 := H.cell Bal.len k hlt 0 _ rfl
      have c1 := H.cell Bal.len k hlt 1 _ rfl
      have hix2 := Sl.at H2 Try.underlying42 Try.sizeOf52 k hlt
      have d0 := H2.cell Bal.len k hlt 0 _ rfl
      have d1 := H2.cell Bal.len k hlt 1 _ rfl
      simp only [Nat.add_zero] at c0 d0
      go_wp2_with fail
      go_quiet (fail)
      go_wp2_with fail
      go_roundw
      case rel => exact ⟨k + 1, _, by omega, by go_num, rfl⟩
      case measure => simp [intOf]; omega
    · go_wp2
      go_ret
      exact ⟨rfl, _, rfl⟩
theorem there_newP (w : World) (t : TypeId) (vs : List Value) : (w.alloc (.cells vs.toArray t)).there w.heap.size 0 vs.length := fun j hj => by
  rw [Nat.zero_add]
  have hh := heap_alloc_new w (.cells vs.toArray t)
  exact ⟨by rw [cell_of_row _ w.heap.size j vs.toArray t (0, 0) hh]; simp [hj], frozen_of_row _ w.heap.size j vs.toArray t hh⟩
theorem results_cell_midP {P : Program} {fn : Func} {p : Tmp} {ty : TypeId} (h : fn.results = #[.cell p ty]) (tmps : Array Value) (w : World) (g : Nat) (cs : List Value) (d : TypeDesc)
    (hp : tmps.getD p undef = .pointer (some ⟨g, 0, none⟩)) (hc : w.rangeAt g 0 cs) (hu : P.underlying ty = some d) (hd : d.isRow = true) (hi : (P.info? ty).map (·.size) = some cs.length) :
    (results fn tmps).run P w = .ok (.agg cs.toArray) w := by
  have hp' : tmps[p]?.getD undef = .pointer (some ⟨g, 0, none⟩) := by simpa using hp
  simp [results, h, hp', asAddr, run_loadVar_mid w g 0 ty cs d hc hu hd hi]
theorem keeps_setCellsP {a : World} {B : Nat} (hB : a.heap.size ≤ B) : ∀ (vs : List Value) (o : Nat) (b : World), Keeps a b → Keeps a (b.setCells B o vs)
  | [], _, _, h => h
  | v :: vs, o, b, h => keeps_setCellsP hB vs (o + 1) _ (h.setCell (p := ⟨B, o, none⟩) hB v)
theorem range_setCells {w : World} {B p b o : Nat} {cs : List Value} (h : w.rangeAt b o cs) (hb : b ≠ B) (vs : List Value) : (w.setCells B p vs).rangeAt b o cs := fun j v hv => by
  rw [World.cell?_setCells_out B vs p w ⟨b, o + j, none⟩ (fun e => absurd e hb)]
  exact h j v hv
theorem there_keeps {w w' : World} {b o n : Nat} (h : w.there b o n) (k : Keeps w w') : w'.there b o n := fun j hj => by
  obtain ⟨h1, h2⟩ := h j hj
  obtain ⟨v, hv⟩ := Option.isSome_iff_exists.1 h1
  exact ⟨by rw [k.cell hv]; rfl, k.frz hv h2⟩
/-- The cells of books with entries and matches alone. -/
def bkC (es ms : Value) : List Value := [.string ⟨#[]⟩, .int .i64 0, .int .i64 0, .int .i64 0, .slice none 0 0, .int .i64 0, .int .i64 0, .int .i64 0, .int .i64 0, .int .i64 0, .int .i64 0, .int .i64 0, .int .i64 0, .int .i64 0, .int .i64 0, .int .i64 0, .int .i64 0, .int .i64 0, .int .i64 0, .int .i64 0, .slice none 0 0, es, .slice none 0 0, .slice none 0 0, ms, .slice none 0 0, .string ⟨#[]⟩]
theorem bkC_len (es ms : Value) : (bkC es ms).length = 27 := rfl
theorem bkC_one (es ms : Value) (h1 : es.oneCell' = true) (h2 : ms.oneCell' = true) : ∀ v ∈ bkC es ms, v.oneCell' = true := by
  intro v hv
  simp only [bkC, List.mem_cons, List.not_mem_nil, or_false] at hv
  repeat (rcases hv with rfl | hv; · first | rfl | assumption)
  try (subst hv; rfl)
theorem sl_setCells {w : World} {sz : Nat} {ao : Option Addr} {n cap b o B : Nat} {cs : List Value} (h : Sl w sz ao n cap b o cs) (hb : b ≠ B) (vs : List Value) (p : Nat) : Sl (w.setCells B p vs) sz ao n cap b o cs :=
  ⟨h.len, h.le, h.nocap, h.cap, h.addr, fun j u hu => by
    rw [World.cell?_setCells_out B vs p w ⟨b, o + j, none⟩ (fun e => absurd e hb)]
    exact h.cell j u hu⟩
theorem Jrns.setCells {w : World} {es : List JV} {ao : Option Addr} {cap b o B : Nat} (h : Jrns w es ao cap b o) (hb : b ≠ B) (he : ∀ e ∈ es, e.b ≠ B) (vs : List Value) (p : Nat) : Jrns (w.setCells B p vs) es ao cap b o :=
  ⟨sl_setCells h.row hb vs p, fun e hm => sl_setCells (h.lines e hm) (he e hm) vs p⟩
def exE : Jrn := ⟨5, 1, 3, 0, 0, ⟨#[]⟩, [⟨20, 70, 0⟩, ⟨100, -70, 0⟩]⟩
end Go.Proofs.Ytfddhmhagijodaa
