/- The reference's Lines: the walk. -/
import Derived.Test.YtfddhmhagijodaaRPlsW
namespace Go.Proofs.Ytfddhmhagijodaa
open Go.RowKit
set_option linter.unusedSimpArgs false
set_option linter.unusedVariables false

def RP.ref (p : RP) : Rf := ⟨p.y.x.id, p.k⟩
theorem rlines_eq (date en pt : Int) (es : List JV) : (rbtw date en pt es).map RP.ref = linesP date en pt (es.map JV.x) := by
  rw [linesP, ← rbtw_plc, List.map_map]; rfl
set_option maxRecDepth 100000 in
set_option maxHeartbeats 1000000 in
theorem rlines_any (bv : List Value) (es : List JV) (ms : List MV) (en pt date : Int) (w : World) (H : Bks w bv es ms) (hn : es.length ≤ 40) (hm : ∀ e ∈ es, e.x.lines.length ≤ 8) :
    Calls Try.prog 18 #[.agg bv.toArray, .int .i64 en, .int .i64 pt, .int .i64 date] w
      fun e w' => ∃ v, e = .returned v ∧ w'.ownsRow w.heap.size 59 2 v (linesP date en pt (es.map JV.x)).length ((linesP date en pt (es.map JV.x)).flatMap Rf.cells) ∧ Keeps w w' := by
  have hbl := H.len
  have HP := Lib.hid (fun W hW => rpls_any bv es ms en pt date W (H.keeps hW) hn hm)
  have hlen := rbtw_len date en pt es hm
  obtain ⟨P, hP⟩ : ∃ P, rbtw date en pt es = P := ⟨_, rfl⟩
  have HB : Hid (linesP date en pt (es.map JV.x) = P.map RP.ref) := Lib.hid (by rw [← rlines_eq, hP])
  rw [hP] at HP hlen
  clear hP H hm
  have hrg := box_range w bv 36
  have hk0 : Keeps w (w.alloc (.cells bv.toArray 36)) := (Keeps.refl w).alloc _
  go_enter Try.func18, Try.ntmps18
  go_wp2_with (first | (refine wpList_books rfl (.tmp 4) rfl w.heap.size bv hbl rfl hrg ?_; clear hrg) | (go_at_call 31; refine (HP.out _ hk0).mono ?_; rintro e w1 ⟨v1, rfl, ho1, hk1⟩; obtain ⟨ao1, cap1, b1, e1, hs1⟩ := Sl.own ho1; subst e1; have HS1 := Lib.hid hs1; have HK1 := Lib.hid (hk0.trans hk1); clear hk1 hk0 ho1))
  have hcap1 := HS1.out.cap
  have hle1 := HS1.out.le
  go_loopw [9, 11] (fun vo vi wr => ∃ k : Nat, k ≤ P.length ∧ vi = .int .i64 k ∧ Hid (Keeps w1 wr ∧ wr.ownsRow w1.heap.size 59 2 vo k (((P.take k).map RP.ref).flatMap Rf.cells))) (fun _ vi _ => P.length - (intOf vi).toNat)
  case atStart => exact ⟨0, Nat.zero_le _, rfl, Lib.hid ⟨Keeps.refl w1, World.ownsRow_nil _ _ _ _⟩⟩
  case round =>
    obtain ⟨k, hk, rfl, HW⟩ := hrel
    by_cases hlt : k < P.length
    · have hr : Recs wr 14 RP.cells ao1 P cap1 b1 0 := HS1.out.keeps HW.out.1
      have hix := Sl.at hr Try.underlying81 Try.sizeOf84 k hlt
      obtain ⟨p, hpk⟩ : ∃ p, P[k] = p := ⟨_, rfl⟩
      have hrg := hr.range RP.len k hlt
      rw [hpk, Nat.zero_add] at hrg
      have c10 : wr.cell? ⟨b1, k * 14 + 10, none⟩ = some (.int .i64 p.y.x.id) := hrg 10 _ rfl
      have c11 : wr.cell? ⟨b1, k * 14 + 11, none⟩ = some (.int .i64 p.k) := hrg 11 _ rfl
      simp only [Nat.zero_add] at hix
      have HN : Hid (((P.take k).map RP.ref).flatMap Rf.cells ++ [.int .i64 p.y.x.id, .int .i64 p.k] = ((P.take (k + 1)).map RP.ref).flatMap Rf.cells) := Lib.hid (by
        rw [take_snoc _ k hlt, hpk, List.map_append, List.flatMap_append]; rfl)
      clear hpk hr hrg
      go_wp2_with (at_builtin; refine wpList_appx elemRef rfl _ _ rfl w1 _ _ _ rfl w1.heap.size HW.out.2 HW.out.1 HW.out.1.size [.int .i64 p.y.x.id, .int .i64 p.k] _ 1 rfl (by simp) rfl (by intro u hu; simp at hu; rcases hu with rfl | rfl <;> rfl) (by omega) (by omega) ?_; intro v3 w3 hown3 hb3 hsz3)
      go_roundw
      case rel => exact ⟨k + 1, by omega, by go_num, Lib.hid ⟨hb3, by rw [HN.out] at hown3; exact hown3⟩⟩
      case measure => simp [intOf]; omega
    · obtain rfl : k = P.length := by omega
      go_wp2_with fail
      go_ret
      refine ⟨_, rfl, ?_, HK1.out.trans HW.out.1⟩
      have h := HW.out.2
      rw [List.take_length] at h
      rw [HB.out, List.length_map]
      exact own_baseP h HK1.out.size
end Go.Proofs.Ytfddhmhagijodaa
