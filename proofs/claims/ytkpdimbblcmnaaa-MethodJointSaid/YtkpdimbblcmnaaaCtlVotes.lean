/- control.votes: the walk. -/
import Derived.Test.YtkpdimbblcmnaaaProg
import Derived.Test.YtkpdimbblcmnaaaRowsP
import Derived.Test.YtkpdimbblcmnaaaCtlBits
import Derived.WalkKit
namespace Go.Proofs.Ytkpdimbblcmnaaa
open Go.RowKit
set_option linter.unusedSimpArgs false
set_option linter.unusedVariables false

/-- A square matrix. -/
def matF (f : Nat → Nat → Int) (n : Nat) : List (List Int) := (List.range n).map fun (h : Nat) => (List.range n).map fun (e : Nat) => f h e
theorem matF_len (f : Nat → Nat → Int) (n : Nat) : (matF f n).length = n := by simp [matF]
theorem matF_get (f : Nat → Nat → Int) (n : Nat) (k : Nat) (h : k < (matF f n).length) : (matF f n)[k] = (List.range n).map fun (e : Nat) => f k e := by simp [matF]
/-- A row of the matrix, and its elements. -/
theorem matF_at {w : World} {ao : Option Addr} {f : Nat → Nat → Int} {n cap b o : Nat} (H : Rows w ao (matF f n) cap b o) (i : Nat) (hi : i < n) :
    ∃ ao2 cap2 b2 o2, w.cell? ⟨b, o + i, none⟩ = some (.slice ao2 n cap2) ∧ n ≤ cap2 ∧ cap2 ≤ 9223372036854775807 ∧
      (∀ k, k < n → w.cell? ⟨b2, o2 + k, none⟩ = some (.int .i64 (f i k))) ∧
      (∀ k, k < n → ∀ w', (Instr.indexAt 35 (.slice ao2 n cap2) (.int .i64 (k : Int))).run Try.prog w' = .ok (.pointer (some ⟨b2, o2 + k, none⟩)) w') := by
  obtain ⟨ao2, cap2, b2, o2, h1, h2⟩ := H.at i (by rw [matF_len]; exact hi)
  rw [matF_get] at h1 h2
  have hl : ((List.range n).map fun (e : Nat) => f i e).length = n := by simp
  have hle := h2.le
  have hcap := h2.cap
  rw [hl] at h1 hle
  refine ⟨ao2, cap2, b2, o2, h1, hle, hcap, fun k hk => ?_, fun k hk => ?_⟩
  · have := h2.int k (by rw [hl]; exact hk)
    simpa using this
  · have := h2.at1 Try.underlying35 Try.sizeOf3 k (by rw [hl]; exact hk)
    rw [hl] at this
    exact this
theorem matF_ix {w : World} {ao : Option Addr} {f : Nat → Nat → Int} {n cap b o : Nat} (H : Rows w ao (matF f n) cap b o) (i : Nat) (hi : i < n) :
    ∀ w', (Instr.indexAt 77 (.slice ao n cap) (.int .i64 (i : Int))).run Try.prog w' = .ok (.pointer (some ⟨b, o + i, none⟩)) w' := by
  have := H.at1 Try.underlying77 Try.sizeOf35 i (by rw [matF_len]; exact hi)
  rw [matF_len] at this
  exact this
set_option maxRecDepth 100000 in
set_option maxHeartbeats 1000000 in
theorem votes_any (f : Nat → Nat → Int) (n : Nat) (hn : n ≤ 12) (hf : ∀ h e, 0 ≤ f h e ∧ f h e ≤ 10000) (S : Nat → Bool) (e : Nat) (he : e < n) (ao : Option Addr) (cap b o : Nat) (w : World) (H : Rows w ao (matF f n) cap b o) :
    Calls Try.prog 47 #[.slice ao n cap, .int .u16 (encB S n : Nat), .int .i64 (e : Int)] w fun en w' => en = .returned (.int .i64 (voteK f S e n)) ∧ w' = w := by
  have hcap := H.cap
  have hle := H.le
  rw [matF_len] at hle
  have HH := Lib.hid H
  have HF := Lib.hid hf
  clear H hf
  go_enter Try.func47, Try.ntmps47
  go_wp2_with fail
  go_loopw [7, 12] (fun vs vi wr => ∃ (k : Nat) (s : Int), k ≤ n ∧ vi = .int .i64 k ∧ vs = .int .i64 s ∧ 0 ≤ s ∧ s ≤ 120000 ∧ Hid (s = voteK f S e k) ∧ wr = w) (fun _ vi _ => n - (intOf vi).toNat)
  case atStart => exact ⟨0, 0, Nat.zero_le _, rfl, rfl, by omega, by omega, Lib.hid rfl, rfl⟩
  case round =>
    obtain ⟨k, s, hk, rfl, rfl, h0, h1, HS, rfl⟩ := hrel
    by_cases hlt : k < n
    · obtain ⟨ao2, cap2, b2, o2, c0, h2, h3, h4, h5⟩ := matF_at HH.out k hlt
      have hix := matF_ix HH.out k hlt
      have hiy := h5 e he
      have c1 := h4 e he
      clear h4 h5
      obtain ⟨x, hx⟩ : ∃ x, f k e = x := ⟨_, rfl⟩
      have hxb := HF.out k e
      rw [hx] at c1 hxb
      obtain ⟨hx0, hx1⟩ := hxb
      cases hs : S k with
      | true =>
        have hb := bit16_yes hn hlt hs
        have HN : Hid (s + x = voteK f S e (k + 1)) := Lib.hid (by rw [HS.out]; simp only [voteK]; rw [hs, hx]; rfl)
        have hsn : s + x ≤ 120000 := by
          rw [HN.out]
          have := (voteK_bd HF.out S e (k + 1)).2
          omega
        clear hs hx
        go_wp2_with fail
        go_roundw
        case rel => exact ⟨k + 1, s + x, by omega, by go_num, rfl, by omega, by omega, HN, trivial⟩
        case measure => simp [intOf]; omega
      | false =>
        have hb := bit16_no hn hlt hs
        have HN : Hid (s = voteK f S e (k + 1)) := Lib.hid (by rw [HS.out]; simp only [voteK]; rw [hs]; simp)
        clear hs hx
        go_wp2_with fail
        go_roundw
        case rel => exact ⟨k + 1, s, by omega, by go_num, rfl, by omega, by omega, HN, trivial⟩
        case measure => simp [intOf]; omega
    · obtain rfl : k = n := by omega
      go_wp2_with fail
      go_ret
      rw [HS.out]
      exact ⟨rfl, rfl⟩
end Go.Proofs.Ytkpdimbblcmnaaa
