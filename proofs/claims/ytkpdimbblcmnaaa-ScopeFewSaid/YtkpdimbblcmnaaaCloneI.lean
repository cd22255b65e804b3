/- slices.Clone at ints: the walk. -/
import Derived.Test.YtkpdimbblcmnaaaHolDates
import Derived.Test.YtkpdimbblcmnaaaKBase
import Derived.Lib.SliceRun
namespace Go.Proofs.Ytkpdimbblcmnaaa
open Go.RowKit
set_option linter.unusedSimpArgs false
set_option linter.unusedVariables false
theorem ones_int (l : List Int) : ∀ u ∈ l.map (Value.int .i64), u.oneCell' = true := fun u hu => by
  obtain ⟨a, _, rfl⟩ := List.mem_map.1 hu
  rfl
set_option maxHeartbeats 1000000 in
theorem cloneI_any (ao : Option Addr) (l : List Int) (cap b o : Nat) (w : World) (H : Sl w 1 ao l.length cap b o (l.map (.int .i64))) (hlen : l.length ≤ 1000000) :
    Calls Try.prog 57 #[.slice ao l.length cap] w fun e w' => ∃ v, e = .returned v ∧ w'.ownsRow w.heap.size 3 1 v l.length (l.map (.int .i64)) ∧ Keeps w w' := by
  have hcap := Sl.cap H
  have hle := Sl.le H
  have HH := Lib.hid H
  have HB := Lib.hid (ones_int l)
  cases ao with
  | none =>
    have h0 := Sl.nocap H rfl
    have hl0 : l = [] := List.eq_nil_of_length_eq_zero (by omega)
    subst hl0
    obtain rfl : cap = 0 := h0
    clear hcap hle
    simp only [List.length_nil]
    have hq := Lib.run_eql_slice_nil (P := Try.prog) w 35 3 none 0 0 0 0 Try.underlying35
    simp only [Option.isNone_none] at hq
    clear H
    go_enter Try.func57, Try.ntmps57
    go_wp2
    go_ret
    exact ⟨_, rfl, World.ownsRow_nil _ _ _ _, Keeps.refl w⟩
  | some ad =>
    have hq := Lib.run_eql_slice_nil (P := Try.prog) w 35 3 (some ad) l.length cap 0 0 Try.underlying35
    simp only [Option.isNone_some] at hq
    clear H
    go_enter Try.func57, Try.ntmps57
    go_wp2_with (at_builtin; (refine wpList_app_all elemInt rfl (.tmp 5) (.tmp 6) rfl w _ 0 [] rfl w.heap.size (own_empty (Nat.le_refl _)) (by exact ((Below.refl _ w).alloc (Nat.le_refl _) _)) (by simp) (some ad) l.length cap b o (l.map (.int .i64)) (by rfl) (by exact HH.out.keeps ((Keeps.refl w).alloc _)) HB.out (by omega) (by omega) ?_); intro v5 w5 hown5 hb5 hsz5; rw [Nat.zero_add, List.nil_append] at hown5; have HX := Lib.hid (And.intro hown5 (show Keeps w w5 from hb5)); clear hown5 hb5)
    go_ret
    exact ⟨_, rfl, HX.out.1, HX.out.2⟩
end Go.Proofs.Ytkpdimbblcmnaaa
