/- slices.Clone at lines, slices.IndexFunc at entries with Find's closure: the walks. -/
import Derived.Test.YtfddhmhagijodaaFewW
import Derived.Test.YtfddhmhagijodaaApp2
import Derived.Lib.SliceRun
namespace Go.Proofs.Ytfddhmhagijodaa
open Go.RowKit
set_option linter.unusedSimpArgs false
set_option linter.unusedVariables false

theorem elemLn : ElemOf Try.prog 48 56 (.agg #[.int .i64 0, .int .i64 0, .int .i64 0]) 3 24 := ⟨Try.underlying48, by kernel_rfl, rfl, by omega⟩
theorem ones_ln (l : List Ln) : ∀ u ∈ l.flatMap Ln.cells, u.oneCell' = true := fun u hu => by
  obtain ⟨a, _, hu⟩ := List.mem_flatMap.1 hu
  simp [Ln.cells] at hu
  rcases hu with rfl | rfl | rfl <;> rfl
set_option maxHeartbeats 1000000 in
theorem cloneL_any (ao : Option Addr) (l : List Ln) (cap b o : Nat) (w : World) (H : Recs w 3 Ln.cells ao l cap b o) (hlen : l.length ≤ 1000) :
    Calls Try.prog 37 #[.slice ao l.length cap] w fun e w' => ∃ v, e = .returned v ∧ w'.ownsRow w.heap.size 56 3 v l.length (l.flatMap Ln.cells) ∧ Keeps w w' := by
  have hcap := Sl.cap H
  have hle := Sl.le H
  have HH := Lib.hid H
  have HB := Lib.hid (ones_ln l)
  cases ao with
  | none =>
    have h0 := Sl.nocap H rfl
    have hl0 : l = [] := List.eq_nil_of_length_eq_zero (by omega)
    subst hl0
    obtain rfl : cap = 0 := h0
    clear hcap hle
    simp only [List.length_nil]
    have hq := Lib.run_eql_slice_nil (P := Try.prog) w 48 56 none 0 0 0 0 Try.underlying48
    simp only [Option.isNone_none] at hq
    clear H
    go_enter Try.func37, Try.ntmps37
    go_wp2
    go_ret
    exact ⟨_, rfl, World.ownsRow_nil _ _ _ _, Keeps.refl w⟩
  | some ad =>
    have hq := Lib.run_eql_slice_nil (P := Try.prog) w 48 56 (some ad) l.length cap 0 0 Try.underlying48
    simp only [Option.isNone_some] at hq
    clear H
    go_enter Try.func37, Try.ntmps37
    go_wp2_with (at_builtin; (refine wpList_app_all elemLn rfl (.tmp 5) (.tmp 6) rfl w _ 0 [] rfl w.heap.size (own_empty (Nat.le_refl _)) (by exact ((Below.refl _ w).alloc (Nat.le_refl _) _)) (by simp) (some ad) l.length cap b o (l.flatMap Ln.cells) (by rfl) (by exact HH.out.keeps ((Keeps.refl w).alloc _)) HB.out (by omega) (by omega) ?_); intro v5 w5 hown5 hb5 hsz5; rw [Nat.zero_add, List.nil_append] at hown5; have HX := Lib.hid (And.intro hown5 (show Keeps w w5 from hb5)); clear hown5 hb5)
    go_ret
    exact ⟨_, rfl, HX.out.1, HX.out.2⟩
theorem find1_any (e : JV) (B : Nat) (i : Int) (w : World) (hi : w.cell? ⟨B, 0, none⟩ = some (.int .i64 i)) :
    Calls Try.prog 36 #[.agg #[.int .i64 e.x.id, .int .i64 e.x.ent, .int .i64 e.x.date, .int .i64 e.x.kind, .int .i64 e.x.of_, .string e.x.text, .slice e.a e.x.lines.length e.c], .pointer (some ⟨B, 0, none⟩)] w
      fun en w' => en = .returned (.bool (e.x.id == i)) ∧ Keeps w w' := by
  have hb := World.block_lt_of_cell? _ _ hi
  go_enter Try.func36, Try.ntmps36
  go_wp2_with fail
  go_ret
  exact ⟨rfl, (Keeps.refl w).alloc _⟩
/-- The first entry with an ID. -/
def FstE (es : List JV) (i : Int) (k : Nat) : Prop := (∀ e ∈ es.take k, e.x.id ≠ i) ∧ k ≤ es.length ∧ ∀ h : k < es.length, es[k].x.id = i
set_option maxHeartbeats 1000000 in
theorem idxE_any (es : List JV) (ao : Option Addr) (cap b o B : Nat) (i : Int) (w : World) (H : Jrns w es ao cap b o) (hi : w.cell? ⟨B, 0, none⟩ = some (.int .i64 i)) :
    Calls Try.prog 35 #[.slice ao es.length cap, .func (.func 36) #[] #[.pointer (some ⟨B, 0, none⟩)]] w
      fun en w' => ∃ k, FstE es i k ∧ en = .returned (.int .i64 (if k < es.length then (k : Int) else -1)) ∧ Keeps w w' := by
  have hcap := Sl.cap H.row
  have hle := Sl.le H.row
  have HH := Lib.hid H
  clear H
  go_enter Try.func35, Try.ntmps35
  go_wp2_with fail
  go_loopw [8] (fun vi wr => ∃ k : Nat, k ≤ es.length ∧ vi = .int .i64 k ∧ Hid (∀ e ∈ es.take k, e.x.id ≠ i) ∧ Hid (Keeps w wr)) (fun vi _ => es.length - (intOf vi).toNat)
  case atStart => exact ⟨0, Nat.zero_le _, rfl, Lib.hid (by simp), Lib.hid (Keeps.refl w)⟩
  case round =>
    obtain ⟨k, hk, rfl, HN, HW⟩ := hrel
    by_cases hlt : k < es.length
    · have hr := HH.out.row.keeps HW.out
      have hix := Sl.at hr Try.underlying30 Try.sizeOf50 k hlt
      obtain ⟨y, hy⟩ : ∃ y, es[k] = y := ⟨_, rfl⟩
      have c0 := hr.cell JV.len k hlt 0 (.int .i64 y.x.id) (by rw [hy]; rfl)
      rw [Nat.add_zero] at c0
      have c1 := hr.cell JV.len k hlt 1 (.int .i64 y.x.ent) (by rw [hy]; rfl)
      have c2 := hr.cell JV.len k hlt 2 (.int .i64 y.x.date) (by rw [hy]; rfl)
      have c3 := hr.cell JV.len k hlt 3 (.int .i64 y.x.kind) (by rw [hy]; rfl)
      have c4 := hr.cell JV.len k hlt 4 (.int .i64 y.x.of_) (by rw [hy]; rfl)
      have c5 := hr.cell JV.len k hlt 5 (.string y.x.text) (by rw [hy]; rfl)
      have c6 := hr.cell JV.len k hlt 6 (.slice y.a y.x.lines.length y.c) (by rw [hy]; rfl)
      have HB := Lib.hid (find1_any y B i wr (HW.out.cell hi))
      have HY := Lib.hid hy
      clear hr hy
      cases he : (y.x.id == i) with
      | true =>
        rw [he] at HB
        have HE : Hid (y.x.id = i) := Lib.hid (by simpa using he)
        clear he
        go_wp2_with (go_at_call 36; refine HB.out.mono ?_; rintro e w1 ⟨rfl, hk1⟩)
        go_ret
        refine ⟨k, ⟨HN.out, hk, fun h => by rw [HY.out]; exact HE.out⟩, by rw [if_pos hlt]; rfl, HW.out.trans hk1⟩
      | false =>
        rw [he] at HB
        have HN2 : Hid (∀ e ∈ es.take (k + 1), e.x.id ≠ i) := Lib.hid (by
          rw [take_snoc _ k hlt]
          intro q hq
          rcases List.mem_append.1 hq with h | h
          · exact HN.out q h
          · rw [List.mem_singleton] at h; rw [h, HY.out]; simpa using he)
        clear he
        go_wp2_with (go_at_call 36; refine HB.out.mono ?_; rintro e w1 ⟨rfl, hk1⟩)
        go_roundw
        case rel => exact ⟨k + 1, by omega, by go_num, HN2, Lib.hid (HW.out.trans hk1)⟩
        case measure => simp [intOf]; omega
    · obtain rfl : k = es.length := by omega
      go_wp2_with fail
      go_ret
      exact ⟨es.length, ⟨HN.out, Nat.le_refl _, fun h => absurd h (Nat.lt_irrefl _)⟩, by rw [if_neg (Nat.lt_irrefl _)]; rfl, HW.out⟩
/-- Results of which two lie in cells. -/
theorem results_two {P : Program} {fn : Func} {p q s : Tmp} {ty ty2 : TypeId} (h : fn.results = #[.cell p ty, .cell q ty2, .tmp s]) (tmps : Array Value) (w : World) (g g2 : Nat) (cs ds : List Value) (d d2 : TypeDesc)
    (hp : tmps.getD p undef = .pointer (some ⟨g, 0, none⟩)) (hc : w.rangeAt g 0 cs) (hu : P.underlying ty = some d) (hd : d.isRow = true) (hi : (P.info? ty).map (·.size) = some cs.length)
    (hq : tmps.getD q undef = .pointer (some ⟨g2, 0, none⟩)) (hc2 : w.rangeAt g2 0 ds) (hu2 : P.underlying ty2 = some d2) (hd2 : d2.isRow = true) (hi2 : (P.info? ty2).map (·.size) = some ds.length) :
    (results fn tmps).run P w = .ok (.tuple #[.agg cs.toArray, .agg ds.toArray, tmps.getD s undef]) w := by
  have hp' : tmps[p]?.getD undef = .pointer (some ⟨g, 0, none⟩) := by simpa using hp
  have hq' : tmps[q]?.getD undef = .pointer (some ⟨g2, 0, none⟩) := by simpa using hq
  simp [results, h, hp', hq', asAddr, run_loadVar_mid w g 0 ty cs d hc hu hd hi, run_loadVar_mid w g2 0 ty2 ds d2 hc2 hu2 hd2 hi2]
theorem enSize : (Try.prog.info? 50).map (·.size) = some 7 := by kernel_rfl
theorem lnSize : (Try.prog.info? 56).map (·.size) = some 3 := by kernel_rfl
theorem JV.one (e : JV) : ∀ v ∈ e.cells, v.oneCell' = true := by
  intro v hv
  simp only [JV.cells, List.mem_cons, List.not_mem_nil, or_false] at hv
  rcases hv with rfl | rfl | rfl | rfl | rfl | rfl | rfl <;> rfl
theorem Ln.one (e : Ln) : ∀ v ∈ e.cells, v.oneCell' = true := by
  intro v hv
  simp only [Ln.cells, List.mem_cons, List.not_mem_nil, or_false] at hv
  rcases hv with rfl | rfl | rfl <;> rfl
/-- The entry and the line of a reference. -/
def lineAt (ls : List Ln) (l : Int) : Option Ln := if l < 0 then none else ls[l.toNat]?
theorem FstE.unique {es : List JV} {i : Int} {k m : Nat} (h : FstE es i k) (g : FstE es i m) : k = m := by
  rcases Nat.lt_trichotomy k m with hl | e | hl
  · exfalso
    have hkl : k < es.length := Nat.lt_of_lt_of_le hl g.2.1
    exact g.1 es[k] (by rw [List.mem_take_iff_getElem]; exact ⟨k, by omega, rfl⟩) (h.2.2 hkl)
  · exact e
  · exfalso
    have hkl : m < es.length := Nat.lt_of_lt_of_le hl h.2.1
    exact h.1 es[m] (by rw [List.mem_take_iff_getElem]; exact ⟨m, by omega, rfl⟩) (g.2.2 hkl)
end Go.Proofs.Ytfddhmhagijodaa
