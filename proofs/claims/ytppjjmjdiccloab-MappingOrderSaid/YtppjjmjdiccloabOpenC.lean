/- An argument opened: a case of the laws on mappings. -/
import Derived.Test.YtppjjmjdiccloabOpen
namespace Go.Proofs.Ytppjjmjdiccloab
open Go.ChangeShapes Go.WideShapes Go.Deep Go.Joins Go.RowKit
set_option linter.unusedVariables false
set_option linter.unusedSimpArgs false
section
variable {H : Type} {enc : TypeId × Value → H} {w : World} {base : Nat} {spare : Nat → Bool} {held : Bool}
theorem cellsCase : Try.prog.cellsOf 37 = 7 := by kernel_rfl
theorem cellsInt : Try.prog.cellsOf 3 = 1 := by kernel_rfl
theorem cellsStr : Try.prog.cellsOf 9 = 1 := by kernel_rfl
theorem cellsBool : Try.prog.cellsOf 4 = 1 := by kernel_rfl
theorem cellsAs : Try.prog.cellsOf 22 = 1 := by kernel_rfl
theorem cellsLs : Try.prog.cellsOf 23 = 1 := by kernel_rfl
theorem open_ent_cells {fuel : Nat} {v0 v1 v2 v3 v4 : Value} {x : DataW H × List MemPlace} (h : DataW.trod enc Try.prog w base spare held fuel 25 [v0, v1, v2, v3, v4] = some x) :
    ∃ (en : Ent), v0 = .string en.name ∧ v1 = .string en.cur ∧ AccL w v2 en.chart ∧ LnkL w v3 en.links ∧ v4 = .bool en.joint ∧ en.Ok := by
  obtain ⟨xs, n, _, _, _, hlen, hg⟩ := DataW.trod_struct Try.underlying25 h
  match xs, hlen with
  | [y0, y1, y2, y3, y4], _ =>
    have h0 : DataW.trod enc Try.prog w base spare held n 9 [v0] = some y0 := by simpa [cellsStr] using hg 0 _ rfl
    have h1 : DataW.trod enc Try.prog w base spare held n 9 [v1] = some y1 := by simpa [cellsStr] using hg 1 _ rfl
    have h2 : DataW.trod enc Try.prog w base spare held n 22 [v2] = some y2 := by simpa [cellsAs] using hg 2 _ rfl
    have h3 : DataW.trod enc Try.prog w base spare held n 23 [v3] = some y3 := by simpa [cellsLs] using hg 3 _ rfl
    have h4 : DataW.trod enc Try.prog w base spare held n 4 [v4] = some y4 := by simpa [cellsBool] using hg 4 _ rfl
    obtain ⟨s0, e0, _⟩ := DataW.trod_string Try.underlying9 h0
    obtain ⟨s1, e1, _⟩ := DataW.trod_string Try.underlying9 h1
    obtain ⟨bj, e4, _⟩ := DataW.trod_bool Try.underlying4 h4
    obtain ⟨lc, hc, hco⟩ := open_accs h2
    obtain ⟨ll, hl, hlo⟩ := open_lnks h3
    simp only [List.cons.injEq, and_true] at e0 e1 e4
    exact ⟨⟨s0, s1, lc, ll, bj⟩, e0, e1, hc, hl, e4, ⟨hco, hlo⟩⟩
theorem open_case {r : Reach} {b0 : Nat} {v : Value} {d : DataW H} {p : List MemPlace} (hv : Value.okWide Try.prog w r b0 37 v) (h : DataW.Trod enc Try.prog w base spare held 37 v d p) :
    ∃ (en : Ent) (aoC : Option Addr) (capC bC oC : Nat) (aoL : Option Addr) (capL bL oL : Nat) (code day : Int), v = .agg #[.string en.name, .string en.cur, .slice aoC en.chart.length capC, .slice aoL en.links.length capL, .bool en.joint, .int .i64 code, .int .i64 day] ∧
      Accs w aoC en.chart capC bC oC ∧ Lnks w aoL en.links capL bL oL ∧ en.Ok := by
  obtain ⟨cs, rfl, hsz⟩ := okWide_struct Try.underlying37 hv
  obtain ⟨l⟩ := cs
  match l, hsz.trans cellsCase with
  | [c0, c1, c2, c3, c4, c5, c6], _ =>
    obtain ⟨fuel, hf⟩ := h
    obtain ⟨xs, n, _, _, _, hlen, hg⟩ := DataW.trod_struct Try.underlying37 hf
    match xs, hlen with
    | [y0, y1, y2], _ =>
      have h0 : DataW.trod enc Try.prog w base spare held n 25 [c0, c1, c2, c3, c4] = some y0 := by simpa [Value.cells, cellsEnt] using hg 0 _ rfl
      have h1 : DataW.trod enc Try.prog w base spare held n 3 [c5] = some y1 := by simpa [Value.cells, cellsInt] using hg 1 _ rfl
      have h2 : DataW.trod enc Try.prog w base spare held n 3 [c6] = some y2 := by simpa [Value.cells, cellsInt] using hg 2 _ rfl
      obtain ⟨code, e1, _⟩ := DataW.trod_int Try.underlying3 h1
      obtain ⟨day, e2, _⟩ := DataW.trod_int Try.underlying3 h2
      obtain ⟨en, e3, e4, ⟨aoC, capC, bC, oC, e5, hC⟩, ⟨aoL, capL, bL, oL, e6, hL⟩, e7, ok⟩ := open_ent_cells h0
      simp only [List.cons.injEq, and_true] at e1 e2
      subst e1 e2 e3 e4 e5 e6 e7
      exact ⟨en, aoC, capC, bC, oC, aoL, capL, bL, oL, code, day, rfl, hC, hL, ok⟩
end
end Go.Proofs.Ytppjjmjdiccloab
