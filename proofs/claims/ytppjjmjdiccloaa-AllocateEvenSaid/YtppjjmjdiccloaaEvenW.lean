/- Even: the program's and the reference's: the walks. -/
import Derived.Test.YtppjjmjdiccloaaRepW
import Derived.Test.YtppjjmjdiccloaaLawSplit
namespace Go.Proofs.Ytppjjmjdiccloaa
open Go.RowKit
attribute [local go_sem ↓] Go.wp_at_zero Go.wp_at_succ

/-- n weights of 1. -/
def ones (n : Nat) : List Int := List.replicate n 1
theorem ones_length (n : Nat) : (ones n).length = n := List.length_replicate
theorem ones_map (n : Nat) : (ones n).map (Value.int .i64) = List.replicate n (.int .i64 1) := List.map_replicate
theorem ones_succ (n : Nat) : ones (n + 1) = ones n ++ [1] := List.replicate_succ'
theorem ones_getElem (n i : Nat) (h : i < (ones n).length) : (ones n)[i] = 1 := List.getElem_replicate ..
theorem IntL.ones {w : World} {ao : Option Addr} {n cap b o : Nat} (H : Sl w 1 ao n cap b o (List.replicate n (.int .i64 1))) : IntL w (.slice ao n cap) (ones n) :=
  ⟨ao, cap, b, o, by rw [ones_length], by rw [ones_length, ones_map]; exact H⟩
def OnesD (total : Int) (n : Nat) (d : Nat → Int) : Prop := Srt (rst (sgn total total) (lsum (ones n)) (ones n)) d 0 (ones n).length ∧ Same 0 (ones n).length (fun k => (k : Int)) d

theorem even_ok (total : Int) (n : Nat) (h1 : 1 ≤ n) (h2 : n ≤ 1000) (he : (wholeS total (ones n)).2 = 0) (w : World) :
    Calls Try.prog 17 #[.int .i64 total, .int .i64 (n : Int)] w fun e w' => ∃ d, OnesD total n d ∧ OutN w n (splitL total (ones n) d) 0 e w' := by
  have HC := Lib.hid (fun v W h => split_ok total (ones n) v W h he)
  have hc1 : ¬ (n : Int) < 1 := by omega
  have hc2 : ¬ 1000 < (n : Int) := by omega
  clear he
  go_enter Try.func17, Try.ntmps17
  go_wp2_with (first | (go_at_call 27; refine (repeat_any n h1 h2 _ _ _ _ _ (Sl.lit w 1 1 [.int .i64 1] 3 rfl (by omega))).mono ?_; rintro e w1 ⟨g, rfl, hs1, hk1⟩; have HS1 := Lib.hid hs1; have HK1 := Lib.hid (((Keeps.refl w).alloc _).trans hk1); clear hs1 hk1) | (go_at_call 12; refine (HC.out _ _ (IntL.ones HS1.out)).mono ?_; rintro e w3 ⟨d, hd, ao3, cap3, b3, o3, rfl, hs3, hk3⟩; have HS3 := Lib.hid hs3; have HK3 := Lib.hid hk3; clear hs3 hk3))
  go_ret2
  refine ⟨d, hd, ao3, cap3, b3, o3, by rw [ones_length]; rfl, ?_, HK1.out.trans HK3.out⟩
  have := HS3.out
  rw [ones_length] at this
  exact this
theorem even_no (total : Int) (n : Nat) (h1 : 1 ≤ n) (h2 : n ≤ 1000) (he : (wholeS total (ones n)).2 ≠ 0) (w : World) :
    Calls Try.prog 17 #[.int .i64 total, .int .i64 (n : Int)] w fun e w' => OutL w [] (wholeS total (ones n)).2 e w' := by
  have HC := Lib.hid (fun v W h => split_no total (ones n) v W h he)
  have hc1 : ¬ (n : Int) < 1 := by omega
  have hc2 : ¬ 1000 < (n : Int) := by omega
  clear he
  go_enter Try.func17, Try.ntmps17
  go_wp2_with (first | (go_at_call 27; refine (repeat_any n h1 h2 _ _ _ _ _ (Sl.lit w 1 1 [.int .i64 1] 3 rfl (by omega))).mono ?_; rintro e w1 ⟨g, rfl, hs1, hk1⟩; have HS1 := Lib.hid hs1; have HK1 := Lib.hid (((Keeps.refl w).alloc _).trans hk1); clear hs1 hk1) | (go_at_call 12; refine (HC.out _ _ (IntL.ones HS1.out)).mono ?_; rintro e w3 ⟨ao3, cap3, b3, o3, rfl, hs3, hk3⟩; have HS3 := Lib.hid hs3; have HK3 := Lib.hid hk3; clear hs3 hk3))
  go_ret2
  exact ⟨ao3, cap3, b3, o3, rfl, HS3.out, HK1.out.trans HK3.out⟩
theorem even_bad (total n : Int) (h : n < 1 ∨ 1000 < n) (w : World) :
    Calls Try.prog 17 #[.int .i64 total, .int .i64 n] w fun e w' => OutL w [] 1 e w' := by
  rcases h with h | h
  · go_enter Try.func17, Try.ntmps17
    go_wp2
    go_ret2
    exact OutL.nil (Keeps.refl w)
  · have h' : ¬ n < 1 := by omega
    go_enter Try.func17, Try.ntmps17
    go_wp2
    go_ret2
    exact OutL.nil (Keeps.refl w)
theorem reven_bad (total n : Int) (h : n < 1 ∨ 1000 < n) (w : World) :
    Calls Try.prog 18 #[.int .i64 total, .int .i64 n] w fun e w' => OutL w [] 1 e w' := by
  rcases h with h | h
  · go_enter Try.func18, Try.ntmps18
    go_wp2
    go_ret2
    exact OutL.nil (Keeps.refl w)
  · have h' : ¬ n < 1 := by omega
    go_enter Try.func18, Try.ntmps18
    go_wp2
    go_ret2
    exact OutL.nil (Keeps.refl w)

/-- The reference's weights are made; then whatever Split does. -/
theorem reven_go (total : Int) (n : Nat) (h1 : 1 ≤ n) (h2 : n ≤ 1000) (w : World) (m : Nat) (xs : List Int) (er : Int)
    (HC : Hid (∀ v W, IntL W v (ones n) → Calls Try.prog 13 #[.int .i64 total, v] W fun e w' => OutN W m xs er e w')) :
    Calls Try.prog 18 #[.int .i64 total, .int .i64 (n : Int)] w fun e w' => OutN w m xs er e w' := by
  have hc1 : ¬ (n : Int) < 1 := by omega
  have hc2 : ¬ 1000 < (n : Int) := by omega
  go_enter Try.func18, Try.ntmps18
  go_wp2_with fail
  go_loopw [6, 7] (fun vo vi wr => ∃ k : Nat, k ≤ n ∧ vi = .int .i64 k ∧ wr.ownsRow w.heap.size 3 1 vo k ((ones k).map (.int .i64)) ∧ Keeps w wr) (fun _ vi _ => n - (intOf vi).toNat)
  case atStart => exact ⟨0, Nat.zero_le _, rfl, World.ownsRow_nil _ _ _ _, Keeps.refl w⟩
  case round =>
    obtain ⟨k, hk, rfl, hown, hb⟩ := hrel
    by_cases hlt : k < n
    · go_wp2_with (at_builtin; refine wpList_app elemInt rfl _ _ rfl w _ _ _ rfl w.heap.size hown hb hb.size [.int .i64 1] 1 rfl rfl ?c2 ?c3 ?c4 ?_)
      case c2 => intro u hu; simp at hu; subst hu; rfl
      case c3 => omega
      case c4 => omega
      intro v3 w3 hown3 hb3 hsz3
      have R4 : w3.ownsRow w.heap.size 3 1 v3 (k + 1) ((ones (k + 1)).map (.int .i64)) := by rw [ones_succ, List.map_append]; exact hown3
      clear hown3 hown
      go_wp2
      go_roundw
      case rel => exact ⟨k + 1, by omega, by go_num, R4, hb3⟩
      case measure => simp [intOf]; omega
    · obtain rfl : k = n := by omega
      have HI : Hid (IntL wr u6 (ones k)) := Lib.hid (IntL.own (by rw [ones_length]; exact hown))
      have HK := Lib.hid hb
      clear hown hb
      go_wp2_with (go_at_call 13; refine (HC.out _ _ HI.out).mono ?_; rintro e w3 ⟨ao3, cap3, b3, o3, rfl, hs3, hk3⟩; have HS3 := Lib.hid hs3; have HK3 := Lib.hid hk3; clear hs3 hk3)
      go_ret2
      exact ⟨ao3, cap3, b3, o3, rfl, HS3.out, HK.out.trans HK3.out⟩
theorem reven_ok (total : Int) (n : Nat) (d : Nat → Int) (h1 : 1 ≤ n) (h2 : n ≤ 1000) (he : (wholeS total (ones n)).2 = 0) (hd : OnesD total n d) (w : World) :
    Calls Try.prog 18 #[.int .i64 total, .int .i64 (n : Int)] w fun e w' => OutN w n (splitL total (ones n) d) 0 e w' := by
  refine reven_go total n h1 h2 w _ _ _ (Lib.hid ?_)
  rintro v W ⟨ao, cap, b, o, rfl, hs⟩
  exact (rsplit_any total (ones n) d ao cap b o W hs he hd.1 hd.2).mono fun e w' h => h.n (by rw [splitL_length, ones_length])
theorem reven_no (total : Int) (n : Nat) (h1 : 1 ≤ n) (h2 : n ≤ 1000) (he : (wholeS total (ones n)).2 ≠ 0) (w : World) :
    Calls Try.prog 18 #[.int .i64 total, .int .i64 (n : Int)] w fun e w' => OutN w 0 [] (wholeS total (ones n)).2 e w' := by
  refine reven_go total n h1 h2 w _ _ _ (Lib.hid ?_)
  rintro v W ⟨ao, cap, b, o, rfl, hs⟩
  exact (rsplit_err total (ones n) ao cap b o W hs he).mono fun e w' h => h.n rfl
end Go.Proofs.Ytppjjmjdiccloaa
