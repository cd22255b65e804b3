/- slices.Clone and slices.IndexFunc at holdings: the walks. -/
import Derived.Test.YtmlpdpacefnngaaHolRVal
import Derived.Test.YtmlpdpacefnngaaApp2
import Derived.Lib.SliceRun
namespace Go.Proofs.Ytmlpdpacefnngaa
open Go.RowKit
set_option linter.unusedSimpArgs false
set_option linter.unusedVariables false

theorem elemHol : ElemOf Try.prog 22 27 (.agg #[.int .i64 0, .int .i64 0, .int .i64 0, .int .i64 0]) 4 32 := ⟨Try.underlying22, by kernel_rfl, rfl, by omega⟩
theorem ones_hol (l : List Hol) : ∀ u ∈ l.flatMap Hol.cells, u.oneCell' = true := fun u hu => by
  obtain ⟨a, _, hu⟩ := List.mem_flatMap.1 hu
  simp [Hol.cells] at hu
  rcases hu with rfl | rfl | rfl | rfl <;> rfl
/-- The result owns a copy. -/
def OwnH (w : World) (l : List Hol) (v : Value) (w' : World) : Prop := w'.ownsRow w.heap.size 27 4 v l.length (l.flatMap Hol.cells) ∧ Keeps w w'
set_option maxHeartbeats 1000000 in
theorem clone_any (ao : Option Addr) (l : List Hol) (cap b o : Nat) (w : World) (H : Hols w ao l cap b o) (hlen : l.length ≤ 1000) :
    Calls Try.prog 48 #[.slice ao l.length cap] w fun e w' => ∃ v, e = .returned v ∧ OwnH w l v w' := by
  have hcap := Sl.cap H
  have hle := Sl.le H
  have HH := Lib.hid H
  have HB := Lib.hid (ones_hol l)
  cases ao with
  | none =>
    have h0 := Sl.nocap H rfl
    have hl0 : l = [] := List.eq_nil_of_length_eq_zero (by omega)
    subst hl0
    obtain rfl : cap = 0 := h0
    clear hcap hle
    simp only [List.length_nil]
    have hq := Lib.run_eql_slice_nil (P := Try.prog) w 22 27 none 0 0 0 0 Try.underlying22
    simp only [Option.isNone_none] at hq
    clear H
    go_enter Try.func48, Try.ntmps48
    go_wp2
    go_ret
    exact ⟨_, rfl, World.ownsRow_nil _ _ _ _, Keeps.refl w⟩
  | some ad =>
    have hq := Lib.run_eql_slice_nil (P := Try.prog) w 22 27 (some ad) l.length cap 0 0 Try.underlying22
    simp only [Option.isNone_some] at hq
    clear H
    go_enter Try.func48, Try.ntmps48
    go_wp2_with (at_builtin; (refine wpList_app_all elemHol rfl (.tmp 5) (.tmp 6) rfl w _ 0 [] rfl w.heap.size (own_empty (Nat.le_refl _)) (by exact ((Below.refl _ w).alloc (Nat.le_refl _) _)) (by simp) (some ad) l.length cap b o (l.flatMap Hol.cells) (by rfl) (by exact HH.out.keeps ((Keeps.refl w).alloc _)) HB.out (by omega) (by omega) ?_); intro v5 w5 hown5 hb5 hsz5; rw [Nat.zero_add, List.nil_append] at hown5; have HX := Lib.hid (And.intro hown5 (show Keeps w w5 from hb5)); clear hown5 hb5)
    go_ret
    exact ⟨_, rfl, HX.out.1, HX.out.2⟩
set_option maxHeartbeats 2000000 in
theorem same1_any (x h : Hol) (B : Nat) (w : World) (c0 : w.cell? ⟨B, 0, none⟩ = some (.int .i64 h.holder)) (c1 : w.cell? ⟨B, 1, none⟩ = some (.int .i64 h.entity)) (c2 : w.cell? ⟨B, 2, none⟩ = some (.int .i64 h.date)) :
    Calls Try.prog 50 #[.agg #[.int .i64 x.holder, .int .i64 x.entity, .int .i64 x.date, .int .i64 x.share], .pointer (some ⟨B, 0, none⟩)] w fun e w' => e = .returned (.bool (sameH x h)) ∧ Keeps w w' := by
  have hb := World.block_lt_of_cell? _ _ c0
  cases h1 : (x.holder == h.holder) with
  | false =>
    have HQ : Hid (sameH x h = false) := Lib.hid (by simp [sameH, h1])
    go_enter Try.func50, Try.ntmps50
    go_wp2
    go_ret
    rw [HQ.out]
    exact ⟨rfl, (Keeps.refl w).alloc _⟩
  | true =>
    cases h2 : (x.entity == h.entity) with
    | false =>
      have HQ : Hid (sameH x h = false) := Lib.hid (by simp [sameH, h1, h2])
      go_enter Try.func50, Try.ntmps50
      go_wp2
      go_ret
      rw [HQ.out]
      exact ⟨rfl, (Keeps.refl w).alloc _⟩
    | true =>
      have HQ : Hid (sameH x h = (x.date == h.date)) := Lib.hid (by simp [sameH, h1, h2])
      go_enter Try.func50, Try.ntmps50
      go_wp2
      go_ret
      rw [HQ.out]
      exact ⟨rfl, (Keeps.refl w).alloc _⟩
/-- The index of the first one with the key of h, or -1. -/
def idxH (l : List Hol) (h : Hol) : Option Nat := l.findIdx? (fun x => sameH x h)
def idxV (o : Option Nat) : Int := match o with | none => -1 | some i => (i : Int)
theorem idxH_none {l : List Hol} {h : Hol} (hn : ∀ i (hi : i < l.length), sameH l[i] h = false) : idxH l h = none := by
  unfold idxH
  rw [List.findIdx?_eq_none_iff]
  intro x hx
  obtain ⟨i, hi, rfl⟩ := List.getElem_of_mem hx
  exact hn i hi
theorem idxH_some {l : List Hol} {h : Hol} {k : Nat} (hk : k < l.length) (hn : ∀ i (hi : i < l.length), i < k → sameH l[i] h = false) (hs : sameH l[k] h = true) : idxH l h = some k := by
  unfold idxH
  rw [List.findIdx?_eq_some_iff_getElem]
  exact ⟨hk, hs, fun j hj => by rw [hn j (by omega) hj]; simp⟩
set_option maxHeartbeats 2000000 in
theorem idx_any (h : Hol) (B : Nat) (ao : Option Addr) (l : List Hol) (cap b o : Nat) (w : World) (H : Hols w ao l cap b o) (c0 : w.cell? ⟨B, 0, none⟩ = some (.int .i64 h.holder)) (c1 : w.cell? ⟨B, 1, none⟩ = some (.int .i64 h.entity)) (c2 : w.cell? ⟨B, 2, none⟩ = some (.int .i64 h.date)) :
    Calls Try.prog 49 #[.slice ao l.length cap, .func (.func 50) #[] #[.pointer (some ⟨B, 0, none⟩)]] w fun e w' => e = .returned (.int .i64 (idxV (idxH l h))) ∧ Keeps w w' := by
  have hcap := Sl.cap H
  have hle := Sl.le H
  have HH := Lib.hid H
  have HC := Lib.hid (And.intro c0 (And.intro c1 c2))
  clear H c0 c1 c2
  go_enter Try.func49, Try.ntmps49
  go_wp2_with fail
  go_loopw [8] (fun vi wr => ∃ k : Nat, k ≤ l.length ∧ vi = .int .i64 k ∧ Hid (∀ i (hi : i < l.length), i < k → sameH l[i] h = false) ∧ Hid (Keeps w wr)) (fun vi _ => l.length - (intOf vi).toNat)
  case atStart => exact ⟨0, Nat.zero_le _, rfl, Lib.hid (fun i _ h => absurd h (Nat.not_lt_zero _)), Lib.hid (Keeps.refl w)⟩
  case round =>
    obtain ⟨k, hk, rfl, HN, HW⟩ := hrel
    by_cases hlt : k < l.length
    · have HL := HH.out.keeps HW.out
      have hix := Sl.at HL Try.underlying22 Try.sizeOf27 k hlt
      have c0 := HL.cell Hol.len k hlt 0 _ rfl
      have c1 := HL.cell Hol.len k hlt 1 _ rfl
      have c2 := HL.cell Hol.len k hlt 2 _ rfl
      have c3 := HL.cell Hol.len k hlt 3 _ rfl
      simp only [Nat.add_zero] at c0
      obtain ⟨sm, hsm⟩ : ∃ sm, sameH l[k] h = sm := ⟨_, rfl⟩
      have HX : Hid (∀ W, Keeps w W → Calls Try.prog 50 #[.agg #[.int .i64 l[k].holder, .int .i64 l[k].entity, .int .i64 l[k].date, .int .i64 l[k].share], .pointer (some ⟨B, 0, none⟩)] W fun e w' => e = .returned (.bool sm) ∧ Keeps W w') := Lib.hid (fun W hk => by have := same1_any l[k] h B W (hk.cell HC.out.1) (hk.cell HC.out.2.1) (hk.cell HC.out.2.2); rw [hsm] at this; exact this)
      clear HL
      cases sm with
      | true =>
        have HQ : Hid (idxV (idxH l h) = (k : Int)) := Lib.hid (by rw [idxH_some hlt HN.out hsm]; rfl)
        clear hsm
        go_wp2_with (go_at_call 50; refine (HX.out _ HW.out).mono ?_; rintro e w1 ⟨rfl, hk1⟩; have K1 := Lib.hid (HW.out.trans hk1); clear hk1)
        go_ret
        rw [HQ.out]
        exact ⟨rfl, K1.out⟩
      | false =>
        have HN2 : Hid (∀ i (hi : i < l.length), i < k + 1 → sameH l[i] h = false) := Lib.hid (fun i hi hik => by
          rcases Nat.lt_succ_iff_lt_or_eq.1 hik with h1 | rfl
          · exact HN.out i hi h1
          · exact hsm)
        clear hsm
        go_wp2_with (go_at_call 50; refine (HX.out _ HW.out).mono ?_; rintro e w1 ⟨rfl, hk1⟩; have K1 := Lib.hid (HW.out.trans hk1); clear hk1)
        go_roundw
        case rel => exact ⟨k + 1, by omega, by go_num, HN2, K1⟩
        case measure => simp [intOf]; omega
    · obtain rfl : k = l.length := by omega
      have HQ : Hid (idxV (idxH l h) = -1) := Lib.hid (by rw [idxH_none (fun i hi => HN.out i hi hi)]; rfl)
      go_wp2_with fail
      go_ret
      rw [HQ.out]
      exact ⟨rfl, HW.out⟩
end Go.Proofs.Ytmlpdpacefnngaa
