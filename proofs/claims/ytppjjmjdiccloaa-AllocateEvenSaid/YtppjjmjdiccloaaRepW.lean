/- slices.Repeat of one number 1: the walk. -/
import Derived.Test.YtppjjmjdiccloaaSplitW
import Derived.Test.YtppjjmjdiccloaaShelf
import Derived.Laws.CopyOwn
import Derived.Deep.RegionLaw
import Derived.IntWalk
import Derived.Maps.RangeWalk
namespace Go.Proofs.Ytppjjmjdiccloaa
open Go.RowKit

theorem mul_one (n : Nat) (hn : n ≤ 1000) (w : World) :
    Calls Try.prog 35 #[.int .u64 1, .int .u64 (n : Int)] w fun e w' => e = .returned (.tuple #[.int .u64 0, .int .u64 (n : Int)]) ∧ w = w' := by
  refine (Try.bits_Mul 1 n (by omega) (by omega) w).mono fun e w' h => ?_
  obtain ⟨rfl, rfl⟩ := h
  have e1 : 1 * n / 18446744073709551616 = 0 := by omega
  have e2 : 1 * n % 18446744073709551616 = n := by omega
  rw [e1, e2]
  exact ⟨rfl, rfl⟩

/-- Block g holds n numbers, of which the first k are 1. -/
def Ones (w : World) (g n k : Nat) : Prop := ∃ cur : List Value, w.heap[g]? = some (.cells cur.toArray 3 (0, 0)) ∧ cur.length = n ∧ ∀ j, j < k → cur[j]? = some (.int .i64 1)
theorem Ones.cell {w : World} {g n k : Nat} (h : Ones w g n k) (j : Nat) (hj : j < k) : w.cell? ⟨g, j, none⟩ = some (.int .i64 1) := by
  obtain ⟨cur, hc, _, h1⟩ := h
  rw [cell_of_row w g j cur.toArray 3 (0, 0) hc]
  simpa using h1 j hj
theorem Ones.splice {w : World} {g n k m : Nat} {cur : List Value} (hl : cur.length = n) (h1 : ∀ j, j < k → cur[j]? = some (.int .i64 1)) (hk : k + m ≤ n) (hh : w.heap[g]? = some (.cells (Go.splice cur k (List.replicate m (.int .i64 1))).toArray 3 (0, 0))) : Ones w g n (k + m) := by
  refine ⟨_, hh, by rw [Go.length_splice _ _ _ (by simp; omega)]; exact hl, fun j hj => ?_⟩
  unfold Go.splice
  by_cases h : j < k
  · rw [List.getElem?_append_left (by simp; omega), List.getElem?_take, if_pos h]
    exact h1 j h
  · rw [List.getElem?_append_right (by simp; omega), List.getElem?_append_left (by simp; omega), List.getElem?_replicate, if_pos (by simp; omega)]
theorem Ones.all {w : World} {g n : Nat} (h : Ones w g n n) (hn : n ≤ 9223372036854775807) : Sl w 1 (some ⟨g, 0, none⟩) n n g 0 (List.replicate n (.int .i64 1)) :=
  ⟨by simp, Nat.le_refl _, (fun h => by cases h), hn, fun _ => rfl, fun j u hu => by
    have hj : j < n := by have := (List.getElem?_eq_some_iff.1 hu).1; simpa using this
    rw [List.getElem?_replicate, if_pos hj] at hu
    rw [Nat.zero_add, h.cell j hj]; exact hu⟩

set_option maxHeartbeats 1000000 in
theorem repeat_any (n : Nat) (h1 : 1 ≤ n) (h2 : n ≤ 1000) (ao : Option Addr) (cap b o : Nat) (w : World) (H : Sl w 1 ao 1 cap b o [.int .i64 1]) :
    Calls Try.prog 27 #[.slice ao 1 cap, .int .i64 (n : Int)] w fun e w' => ∃ g, e = .returned (.slice (some ⟨g, 0, none⟩) n n) ∧ Sl w' 1 (some ⟨g, 0, none⟩) n n g 0 (List.replicate n (.int .i64 1)) ∧ Keeps w w' := by
  have hcap := H.cap
  have hle := H.le
  obtain ⟨i0, hi, hz0, hz1, hz2⟩ := info_parts infoInt'
  go_enter Try.func27, Try.ntmps27
  go_wp2_with (first | (go_at_call 35; refine (mul_one n h2 _).mono ?_; rintro e w' ⟨rfl, rfl⟩) | (at_make; refine wpList_make_full _ rfl (.tmp 29) (.tmp 29) 22 rfl w.heap.size 3 i0 (.int .i64 0) 1 Try.underlying22 hi hz0 hz1 _ _ _ _ n rfl rfl rfl rfl ?b1 ?b2 ?b3 ?_))
  case b1 => rw [hz2]; omega
  case b2 => unfold maxLen; omega
  case b3 => omega
  intro w1 hown1 hgrow1
  have k1 : Keeps w w1 := (Keeps.refl w).grown hgrow1 (Nat.le_refl _) (fun j hj => by cases hj)
  have hsl : Hid (Sl w1 1 ao 1 cap b o [.int .i64 1]) := Lib.hid (H.keeps k1)
  have hheap : ∃ cur : List Value, w1.heap[w.heap.size]? = some (.cells cur.toArray 3 (0, 0)) ∧ cur.length = n := by
    rcases hown1.2 with ⟨h, _⟩ | ⟨g, cap', cur, he, _, hg, _, _, hs, _⟩
    · cases h
    · simp only [Value.slice.injEq, Option.some.injEq, Addr.mk.injEq] at he
      obtain ⟨⟨rfl, _, _⟩, _, rfl⟩ := he
      exact ⟨cur.toList, by simpa using hg, by simpa using hs⟩
  obtain ⟨cur, hg, hlen⟩ := hheap
  have HG := Lib.hid hg
  have HLEN := Lib.hid hlen
  have hn1 : n ≤ cur.length := by omega
  have hn2 : cur.length ≤ n := by omega
  have K1 := Lib.hid k1
  clear hown1 hgrow1 k1 hg hlen H
  go_wp2_with (refine wpList_copy_splice (o := ⟨some 33, _, _, _, _, _⟩) rfl (.tmp 31) (.tmp 32) 22 22 rfl 3 Try.underlying22 (by kernel_rfl) _ _ n n 1 cap rfl rfl w.heap.size 0 cur 3 HG.out [.int .i64 1] ?c1 ?c2 ?c3 ?c4 w.heap.size w K1.out (Nat.le_refl _) ?_)
  case c1 => show 1 = Nat.min 1 n; simp [Nat.min_def]; omega
  case c2 => exact ⟨⟨b, o, none⟩, hsl.out.addr (by omega), fun j v hj => by rw [Addr.add_lit]; exact hsl.out.cell j v hj⟩
  case c3 => simp; omega
  case c4 => simp [Value.oneCell']
  intro w2 hG2 hB2
  have HO : Hid (Ones w2 w.heap.size n 1) := Lib.hid (by
    have := Ones.splice (k := 0) (m := 1) HLEN.out (fun j h => absurd h (Nat.not_lt_zero _)) (by omega) hG2.out
    simpa using this)
  have HB := Lib.hid hB2
  clear hG2 hB2 HG K1 hsl
  go_wp2_with fail
  go_loopw [8] (fun vn wr => ∃ k : Nat, 1 ≤ k ∧ k ≤ n ∧ vn = .int .i64 k ∧ Hid (Ones wr w.heap.size n k ∧ Below w.heap.size w wr)) (fun vn _ => n - (intOf vn).toNat)
  case atStart => exact ⟨1, by omega, by omega, rfl, HO.out, HB.out⟩
  case round =>
    obtain ⟨k, hk1, hk, rfl, HR⟩ := hrel
    by_cases hlt : k < n
    · obtain ⟨m, hm⟩ : ∃ m, m = Nat.min k (n - k) := ⟨_, rfl⟩
      have hm1 : m ≤ k := by rw [hm]; exact Nat.min_le_left _ _
      have hm2 : k + m ≤ n := by have : m ≤ n - k := by rw [hm]; exact Nat.min_le_right _ _
                                 omega
      have hm3 : 1 ≤ m := by rw [hm]; simp only [Nat.min_def]; split <;> omega
      have HM := Lib.hid hm
      clear hm
      obtain ⟨curk, hgk, hlk, h1k⟩ := HR.out.1
      have HGK := Lib.hid hgk
      have HLK := Lib.hid hlk
      have H1K := Lib.hid h1k
      clear hgk hlk h1k
      go_wp2_with fail
      have hne : ¬ n = k := by omega
      have hS : ∀ j v, (List.replicate m (Value.int .i64 1))[j]? = some v → wr.drew.cell? ((⟨w.heap.size, 0, none⟩ : Addr).add j) = some v := by
        intro j v hj
        rw [Addr.add_lit, Nat.zero_add]
        have hjm : j < m := by have := (List.getElem?_eq_some_iff.1 hj).1; simpa using this
        rw [List.getElem?_replicate, if_pos hjm] at hj
        exact (HR.out.1.cell j (by omega)).trans hj
      have HS := Lib.hid hS
      have hlen : (List.replicate m (Value.int .i64 1)).length = Nat.min k (n - k) := by rw [List.length_replicate]; exact HM.out
      have HL := Lib.hid hlen
      have HFIT : Hid (k + (List.replicate m (Value.int .i64 1)).length ≤ curk.length) := Lib.hid (by rw [List.length_replicate, HLK.out]; exact hm2)
      have HONE : Hid (∀ v ∈ List.replicate m (Value.int .i64 1), v.oneCell' = true) := Lib.hid (by intro v hv; rw [List.eq_of_mem_replicate hv]; rfl)
      have HBB : Hid (Below w.heap.size w wr.drew) := Lib.hid (below_drewN HR.out.2 1)
      clear hS hlen
      have hwr : IntKind.i64.wrap ((k : Int) + (m : Int)) = (k : Int) + (m : Int) := IntWalk.i64_in _ (by omega)
      have hmm : (List.replicate m (Value.int .i64 1)).length = m := List.length_replicate
      go_region_law (refine step_copy_splice rfl (.tmp 41) (.tmp 44) 22 22 rfl 3 Try.underlying22 (by kernel_rfl) (some ⟨w.heap.size, k, none⟩) (some ⟨w.heap.size, 0, none⟩) (n - k) (n - k) k n (by simp [Act.eval, Act.put]) (by simp [Act.eval, Act.put]) w.heap.size k curk 3 HGK.out (List.replicate m (.int .i64 1)) HL.out (fun _ => ⟨rfl, _, rfl, HS.out⟩) HFIT.out HONE.out w.heap.size w HBB.out (Nat.le_refl _) ?_; intro w4 hG4 hB4; have HO4 := Lib.hid (Ones.splice HLK.out H1K.out hm2 hG4.out); have HB4 := Lib.hid hB4; clear hG4 hB4)
      clear hwr hmm
      go_wp2_with fail
      go_frame
      go_roundw
      case rel => (repeat apply Exists.intro); exact ⟨⟨k + m, by omega, by omega, by go_num, Lib.hid ⟨HO4.out, HB4.out⟩⟩, rfl⟩
      case measure => simp [intOf]; omega
    · obtain rfl : k = n := by omega
      go_wp2
      go_ret
      exact ⟨_, rfl, HR.out.1.all (by omega), HR.out.2⟩
end Go.Proofs.Ytppjjmjdiccloaa
