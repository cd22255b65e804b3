/- The law on reversed entries: what both answers are. No function is walked here. -/
import Derived.Test.YtfddhmhagijodaaLawPNet
import Derived.Test.YtfddhmhagijodaaPRevQ
namespace Go.Proofs.Ytfddhmhagijodaa
open Go.RowKit
set_option linter.unusedSimpArgs false
set_option linter.unusedVariables false

/-- What a call of Net gives, with the list known. -/
def NetGives (bv : List Value) (qe qp qd : Int) (l : List Bal) (W0 : World) : Prop := ∀ W, Keeps W0 W → Calls Try.prog 13 #[.agg bv.toArray, .int .i64 qe, .int .i64 qp, .int .i64 qd] W fun e w' => ∃ v, e = .returned v ∧ BalV l w' v ∧ Keeps W w'
theorem rev_nets (bv : List Value) (es : List JV) (ms : List MV) (qe qp qd : Int) (w Wf : World) (H : Bks w bv es ms) (k : Keeps w Wf) (hl8 : ∀ e ∈ es, e.x.lines.length ≤ 8) (hn : es.length ≤ 40)
    (y : JV) (HY : y.In w) (hy8 : y.x.lines.length ≤ 8) (B N : Nat) (v : Value) (aoM : Option Addr) (capM bM : Nat)
    (hs : Sl Wf 7 aoM (es.length + 2) capM bM 0 (es.flatMap JV.cells ++ [.int .i64 y.x.id, .int .i64 y.x.ent, .int .i64 y.x.date, .int .i64 y.x.kind, .int .i64 y.x.of_, .string y.x.text, .slice y.a y.x.lines.length y.c, .int .i64 (wrap64 (y.x.id + 1)), .int .i64 y.x.ent, .int .i64 y.x.date, .int .i64 y.x.kind, .int .i64 y.x.of_, .string y.x.text, v]))
    (hv : Wf.ownsRow B 56 3 v (y.x.lines.map Ln.neg).length ((y.x.lines.map Ln.neg).flatMap Ln.cells)) :
    ∃ l, NetGives (bv.set 21 (.slice aoM (es.length + 2) capM)) qe qp qd l Wf ∧ NetGives bv qe qp qd l Wf := by
  have hnz := rnet_is bv es ms qe qp qd w H hl8
  obtain ⟨l, hl⟩ : ∃ l, nzN (netR (rbtw qd qe qp es)) = l := ⟨_, rfl⟩
  rw [hl] at hnz
  obtain ⟨aoV, capV, bV, rfl, hsV⟩ := Sl.own hv
  obtain ⟨ao, cap, b, o, he, hj⟩ := H.ents
  refine ⟨l, fun W hW => ?_, fun W hW => ?_⟩
  · have hw : wrap64 (y.x.id + 1) = wr64 (y.x.id + 1) := (wr64_eq _).symm
    have hlen : (es ++ [y, ⟨y.x.rev, aoV, capV, bV, 0⟩]).length = es.length + 2 := by simp
    have HJ : Jrns Wf (es ++ [y, ⟨y.x.rev, aoV, capV, bV, 0⟩]) aoM capM bM 0 := by
      refine ⟨?_, fun e he => ?_⟩
      · show Sl Wf 7 aoM (es ++ [y, (⟨y.x.rev, aoV, capV, bV, 0⟩ : JV)]).length capM bM 0 _
        rw [hlen, List.flatMap_append]
        have e : [y, (⟨y.x.rev, aoV, capV, bV, 0⟩ : JV)].flatMap JV.cells = [.int .i64 y.x.id, .int .i64 y.x.ent, .int .i64 y.x.date, .int .i64 y.x.kind, .int .i64 y.x.of_, .string y.x.text, .slice y.a y.x.lines.length y.c, .int .i64 (wrap64 (y.x.id + 1)), .int .i64 y.x.ent, .int .i64 y.x.date, .int .i64 y.x.kind, .int .i64 y.x.of_, .string y.x.text, .slice aoV (y.x.lines.map Ln.neg).length capV] := by
          simp [JV.cells, Jrn.rev, hw]
        rw [e]; exact hs
      · rcases List.mem_append.1 he with h | h
        · exact (hj.lines e h).keeps k
        · rcases List.mem_cons.1 h with rfl | h
          · exact HY.1.keeps k
          · obtain rfl := List.mem_singleton.1 h
            exact hsV
    have HH := net_any (bv.set 21 (.slice aoM (es.length + 2) capM)) (by rw [List.length_set]; exact H.len) (fun u hu => by
      rcases List.mem_or_eq_of_mem_set hu with h | rfl
      · exact H.one u h
      · rfl) (es ++ [y, ⟨y.x.rev, aoV, capV, bV, 0⟩]) aoM capM bM 0 (by rw [hlen, List.getElem?_set_self (by rw [H.len]; omega)]) qe qp qd W (HJ.keeps hW) (by rw [hlen]; omega) (fun e he => by
      rcases List.mem_append.1 he with h | h
      · exact hl8 e h
      · rcases List.mem_cons.1 h with rfl | h
        · exact hy8
        · obtain rfl := List.mem_singleton.1 h
          show (y.x.lines.map Ln.neg).length ≤ 8
          rw [List.length_map]; exact hy8) (fun e he => by
      rcases List.mem_append.1 he with h | h
      · exact H.ok e h
      · rcases List.mem_cons.1 h with rfl | h
        · exact HY.2
        · obtain rfl := List.mem_singleton.1 h
          exact rev_ok HY.2)
    refine HH.mono ?_
    rintro e w' ⟨v, l2, rfl, hn2, ho, hk, _⟩
    have hn3 : NetZ (btw qd qe qp (es.map JV.x ++ [y.x, y.x.rev])) l2 := by rw [List.map_append] at hn2; exact hn2
    obtain rfl := rev_same hn3 hnz
    obtain ⟨ao2, cap2, b2, rfl, hs2⟩ := Sl.own ho
    exact ⟨_, rfl, BalV.of hs2, hk⟩
  · refine (net_any bv H.len H.one es ao cap b o he qe qp qd W (hj.keeps (k.trans hW)) (by omega) hl8 H.ok).mono ?_
    rintro e w' ⟨v, l2, rfl, hn2, ho, hk, _⟩
    obtain rfl := hnz.unique hn2
    obtain ⟨ao2, cap2, b2, rfl, hs2⟩ := Sl.own ho
    exact ⟨_, rfl, BalV.of hs2, hk⟩
end Go.Proofs.Ytfddhmhagijodaa
