/- The reference's places: the walk. -/
import Derived.Test.YtfddhmhagijodaaRAllW
namespace Go.Proofs.Ytfddhmhagijodaa
open Go.RowKit
set_option linter.unusedSimpArgs false
set_option linter.unusedVariables false

theorem rbtw_len (date en pt : Int) (es : List JV) (h : ∀ y ∈ es, y.x.lines.length ≤ 8) : (rbtw date en pt es).length ≤ es.length * 8 :=
  Nat.le_trans (List.length_filter_le _ _) (by rw [rsort_len]; exact rall_len 8 es 0 h)
set_option maxRecDepth 100000 in
set_option maxHeartbeats 4000000 in
theorem rpls_any (bv : List Value) (es : List JV) (ms : List MV) (en pt date : Int) (w : World) (H : Bks w bv es ms) (hn : es.length ≤ 40) (hm : ∀ e ∈ es, e.x.lines.length ≤ 8) :
    Calls Try.prog 31 #[.agg bv.toArray, .int .i64 en, .int .i64 pt, .int .i64 date] w
      fun e w' => ∃ v, e = .returned v ∧ w'.ownsRow w.heap.size 84 14 v (rbtw date en pt es).length ((rbtw date en pt es).flatMap RP.cells) ∧ Keeps w w' := by
  have hbl := H.len
  have HP := Lib.hid (fun W hW => rallW_any bv es ms W (H.keeps hW) hn hm)
  have hlen : (rsort (rall 0 es)).length ≤ 320 := by rw [rsort_len]; have := rall_len 8 es 0 hm; omega
  obtain ⟨P, hP⟩ : ∃ P, rsort (rall 0 es) = P := ⟨_, rfl⟩
  have HB : Hid (rbtw date en pt es = P.filter (keepR date en pt)) := Lib.hid (by rw [rbtw, hP])
  rw [hP] at HP hlen
  clear hP H hm
  have hrg := box_range w bv 36
  have hk0 : Keeps w (w.alloc (.cells bv.toArray 36)) := (Keeps.refl w).alloc _
  go_enter Try.func31, Try.ntmps31
  go_wp2_with (first | (refine wpList_books rfl (.tmp 4) rfl w.heap.size bv hbl rfl hrg ?_; clear hrg) | (go_at_call 43; refine (HP.out _ hk0).mono ?_; rintro e w1 ⟨v1, rfl, ho1, hk1⟩; obtain ⟨ao1, cap1, b1, e1, hs1⟩ := Sl.own ho1; subst e1; have HS1 := Lib.hid hs1; have HK1 := Lib.hid (hk0.trans hk1); clear hk1 hk0 ho1))
  have hcap1 := HS1.out.cap
  have hle1 := HS1.out.le
  go_loopw [9, 11] (fun vo vi wr => ∃ k m : Nat, k ≤ P.length ∧ m ≤ k ∧ vi = .int .i64 k ∧ Hid (((P.take k).filter (keepR date en pt)).length = m ∧ Keeps w1 wr ∧ wr.ownsRow w1.heap.size 84 14 vo m (((P.take k).filter (keepR date en pt)).flatMap RP.cells))) (fun _ vi _ => P.length - (intOf vi).toNat)
  case atStart => exact ⟨0, 0, Nat.zero_le _, Nat.le_refl _, rfl, Lib.hid ⟨rfl, Keeps.refl w1, World.ownsRow_nil _ _ _ _⟩⟩
  case round =>
    obtain ⟨k, m, hk, hmk, rfl, HW⟩ := hrel
    by_cases hlt : k < P.length
    · have hr : Recs wr 14 RP.cells ao1 P cap1 b1 0 := HS1.out.keeps HW.out.2.1
      have hix := Sl.at hr Try.underlying81 Try.sizeOf84 k hlt
      obtain ⟨p, hpk⟩ : ∃ p, P[k] = p := ⟨_, rfl⟩
      have hrg := hr.range RP.len k hlt
      rw [hpk, Nat.zero_add] at hrg
      have c1 := hrg 1 _ rfl
      have c2 := hrg 2 _ rfl
      have c9 := hrg 9 _ rfl
      simp only [Nat.zero_add] at hix
      have HT : Hid ((P.take (k + 1)).filter (keepR date en pt) = if keepR date en pt p then (P.take k).filter (keepR date en pt) ++ [p] else (P.take k).filter (keepR date en pt)) := Lib.hid (by
        rw [take_snoc _ k hlt, hpk, List.filter_append]
        by_cases hkp : keepR date en pt p = true <;> simp [hkp])
      clear hpk hr
      by_cases h1 : p.y.x.ent = en
      · have e1 : (p.y.x.ent == en) = true := by simpa using h1
        by_cases h2 : p.l.ptn = pt
        · have e2 : (p.l.ptn == pt) = true := by simpa using h2
          by_cases h3 : p.y.x.date ≤ date
          · have e3 : decide (p.y.x.date ≤ date) = true := by simpa using h3
            rw [show keepR date en pt p = true by simp [keepR, h1, h2, h3], if_pos rfl] at HT
            have c0 : wr.cell? ⟨b1, k * 14, none⟩ = some (.int .i64 p.y.x.id) := hrg 0 _ rfl
            have c1 : wr.cell? ⟨b1, k * 14 + 1, none⟩ = some (.int .i64 p.y.x.ent) := hrg 1 _ rfl
            have c2 : wr.cell? ⟨b1, k * 14 + 2, none⟩ = some (.int .i64 p.y.x.date) := hrg 2 _ rfl
            have c3 : wr.cell? ⟨b1, k * 14 + 3, none⟩ = some (.int .i64 p.y.x.kind) := hrg 3 _ rfl
            have c4 : wr.cell? ⟨b1, k * 14 + 4, none⟩ = some (.int .i64 p.y.x.of_) := hrg 4 _ rfl
            have c5 : wr.cell? ⟨b1, k * 14 + 5, none⟩ = some (.string p.y.x.text) := hrg 5 _ rfl
            have c6 : wr.cell? ⟨b1, k * 14 + 6, none⟩ = some (.slice p.y.a p.y.x.lines.length p.y.c) := hrg 6 _ rfl
            have c7 : wr.cell? ⟨b1, k * 14 + 7, none⟩ = some (.int .i64 p.l.acc) := hrg 7 _ rfl
            have c8 : wr.cell? ⟨b1, k * 14 + 8, none⟩ = some (.int .i64 p.l.amt) := hrg 8 _ rfl
            have c9 : wr.cell? ⟨b1, k * 14 + 9, none⟩ = some (.int .i64 p.l.ptn) := hrg 9 _ rfl
            have c10 : wr.cell? ⟨b1, k * 14 + 10, none⟩ = some (.int .i64 p.y.x.id) := hrg 10 _ rfl
            have c11 : wr.cell? ⟨b1, k * 14 + 11, none⟩ = some (.int .i64 p.k) := hrg 11 _ rfl
            have c12 : wr.cell? ⟨b1, k * 14 + 12, none⟩ = some (.int .i64 p.i) := hrg 12 _ rfl
            have c13 : wr.cell? ⟨b1, k * 14 + 13, none⟩ = some (.int .i64 p.k) := hrg 13 _ rfl
            clear h1 h2 h3
            go_wp2_with ((at_builtin; (refine wpList_appx elemRP rfl _ _ rfl w1 _ _ _ rfl w1.heap.size HW.out.2.2 HW.out.2.1 HW.out.2.1.size [.int .i64 p.y.x.id, .int .i64 p.y.x.ent, .int .i64 p.y.x.date, .int .i64 p.y.x.kind, .int .i64 p.y.x.of_, .string p.y.x.text, .slice p.y.a p.y.x.lines.length p.y.c, .int .i64 p.l.acc, .int .i64 p.l.amt, .int .i64 p.l.ptn, .int .i64 p.y.x.id, .int .i64 p.k, .int .i64 p.i, .int .i64 p.k] _ 1 rfl rfl rfl (RP.one p) (by omega) (by omega) ?_); intro v3 w3 hown3 hb3 hsz3; have HY : Hid (((P.take (k + 1)).filter (keepR date en pt)).length = m + 1 ∧ Keeps w1 w3 ∧ w3.ownsRow w1.heap.size 84 14 v3 (m + 1) (((P.take (k + 1)).filter (keepR date en pt)).flatMap RP.cells)) := (Lib.hid ⟨by rw [HT.out, List.length_append, HW.out.1]; rfl, hb3, by rw [HT.out, List.flatMap_append]; exact hown3⟩); clear hown3 hb3 hsz3))
            go_roundw
            case rel => exact ⟨k + 1, m + 1, by omega, by omega, by go_num, HY⟩
            case measure => simp [intOf]; omega
          · have e3 : decide (p.y.x.date ≤ date) = false := by simpa using h3
            rw [show keepR date en pt p = false by simp [keepR, h1, h2, h3], if_neg (by simp)] at HT
            clear h1 h2 h3
            go_wp2_with fail
            go_roundw
            case rel => exact ⟨k + 1, m, by omega, by omega, by go_num, Lib.hid (by rw [HT.out]; exact HW.out)⟩
            case measure => simp [intOf]; omega
        · have e2 : (p.l.ptn == pt) = false := by simpa using h2
          rw [show keepR date en pt p = false by simp [keepR, h1, h2], if_neg (by simp)] at HT
          clear h1 h2
          go_wp2_with fail
          go_roundw
          case rel => exact ⟨k + 1, m, by omega, by omega, by go_num, Lib.hid (by rw [HT.out]; exact HW.out)⟩
          case measure => simp [intOf]; omega
      · have e1 : (p.y.x.ent == en) = false := by simpa using h1
        rw [show keepR date en pt p = false by simp [keepR, h1], if_neg (by simp)] at HT
        clear h1
        go_wp2_with fail
        go_roundw
        case rel => exact ⟨k + 1, m, by omega, by omega, by go_num, Lib.hid (by rw [HT.out]; exact HW.out)⟩
        case measure => simp [intOf]; omega
    · obtain rfl : k = P.length := by omega
      have hx := HW.out
      rw [List.take_length] at hx
      go_wp2_with fail
      go_ret
      refine ⟨_, rfl, ?_, HK1.out.trans hx.2.1⟩
      rw [HB.out, hx.1]
      exact own_baseP hx.2.2 HK1.out.size
end Go.Proofs.Ytfddhmhagijodaa
