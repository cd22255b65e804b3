/- ControlGrows: the walk of the law. -/
import Derived.Test.YtmlpdpacefnngaaCtlAwake
import Derived.Test.YtmlpdpacefnngaaHolRSet
import Derived.Test.YtmlpdpacefnngaaHolKeepP
import Derived.Test.YtmlpdpacefnngaaRG
namespace Go.Proofs.Ytmlpdpacefnngaa
open Go.RowKit
set_option linter.unusedSimpArgs false
set_option linter.unusedVariables false

theorem setH_cases {n : Int} {l : List Hol} {h : Hol} {rl : List Hol} {re : Int} (hr : setH n l h = (rl, re)) (h0 : re = 0) : rl = putH l h ∧ hvalidB n l = true ∧ hvalidB n (putH l h) = true ∧ properB n h = true := by
  subst h0
  unfold setH at hr
  split at hr
  · cases hr
  · split at hr
    · cases hr
    · split at hr
      · cases hr
      · split at hr
        · cases hr
        · simp only [Prod.mk.injEq] at hr
          exact ⟨hr.1.symm, by simp_all, by simp_all, by simp_all⟩
theorem f0_grows {n : Int} {l : List Hol} {h : Hol} (hv : hvalidB n (putH l h) = true) (hs : ¬ h.share < atH l h.holder h.entity h.date) : ∀ x e, f0 l h.date x e ≤ f0 (putH l h) h.date x e := by
  intro x e
  unfold f0
  by_cases hp : h.holder = (x : Int) ∧ h.entity = (e : Int)
  · obtain ⟨h1, h2⟩ := hp
    rw [← h1, ← h2, atH_put hv]
    omega
  · rw [atH_other fun h3 => hp ⟨h3.1, h3.2.1⟩]
    exact Int.le_refl _
set_option maxRecDepth 100000 in
set_option maxHeartbeats 4000000 in
theorem lawCGrow_any (n : Int) (l : List Hol) (h : Hol) (ao : Option Addr) (cap b o : Nat) (w : World) (H : Hols w ao l cap b o) (hok : ∀ x ∈ l, x.Ok) (hho : h.Ok) :
    Calls Try.prog 13 #[.int .i64 n, .slice ao l.length cap, .agg #[.int .i64 h.holder, .int .i64 h.entity, .int .i64 h.date, .int .i64 h.share]] w fun e w' => e = .returned (.bool true) ∧ Keeps w w' := by
  have HH := Lib.hid H
  have HO := Lib.hid hok
  have HHO := Lib.hid hho
  have hcap := Sl.cap H
  have hle := Sl.le H
  clear H hok hho
  obtain ⟨s, hs⟩ : ∃ s, atH l h.holder h.entity h.date = s := ⟨_, rfl⟩
  have HA0 : ∀ w1, Keeps w w1 → ∀ W, Keeps w1 W → Calls Try.prog 19 #[.slice ao l.length cap, .int .i64 h.holder, .int .i64 h.entity, .int .i64 h.date] W fun en w' => en = .returned (.int .i64 s) ∧ Keeps W w' := fun w1 h1 W h2 => by have := rhat_any ao l cap b o h.holder h.entity h.date W (HH.out.keeps (h1.trans h2)); rw [hs] at this; exact this
  have HA0 := Lib.hid HA0
  by_cases hl : l.length ≤ 30
  · have e1 : decide ((30 : Int) < (l.length : Int)) = false := decide_eq_false (by omega)
    by_cases hsh : h.share < s
    · have e2 : decide (h.share < s) = true := decide_eq_true hsh
      clear hs
      go_enter Try.func13, Try.ntmps13
      go_wp2_with (go_at_call 32; refine (cawake_any _).mono ?_; rintro e w1 ⟨rfl, hk1⟩; have K1 := Lib.hid (((Keeps.refl w).alloc _).trans hk1); have HB : Hid (∀ w', Keeps w1 w' → w'.cell? ⟨w.heap.size, 0, none⟩ = some (.int .i64 h.holder) ∧ w'.cell? ⟨w.heap.size, 1, none⟩ = some (.int .i64 h.entity) ∧ w'.cell? ⟨w.heap.size, 2, none⟩ = some (.int .i64 h.date) ∧ w'.cell? ⟨w.heap.size, 3, none⟩ = some (.int .i64 h.share)) := Lib.hid (fun w' hw => have hh := hk1.trans hw; ⟨hh.cell (p := ⟨w.heap.size, 0, none⟩) (by go_simp), hh.cell (p := ⟨w.heap.size, 1, none⟩) (by go_simp), hh.cell (p := ⟨w.heap.size, 2, none⟩) (by go_simp), hh.cell (p := ⟨w.heap.size, 3, none⟩) (by go_simp)⟩); clear hk1)
      have HA1 := Lib.hid (HA0.out w1 K1.out)
      refine wp_region_steps (A := ?_) Keeps [some 16, some 17, some 18, some 19, some 20, some 21, some 22, some 23, some 24, some 25, some 26, some 27, some 28, some 29, some 30, some 31] [[], [0], [1], [2], [3], [3, 4], [3], [3], [3, 7], [3], [3, 9], [3], [3, 11], [3, 6, 8, 10, 12], [3, 5, 13], [3, 14]] 16 (by kernel_rfl) (by kernel_rfl) (by kernel_rfl) (by kernel_rfl) (by kernel_rfl) (by kernel_rfl) Keeps.refl (fun _ _ _ => Keeps.trans) ?_ ?_
      rotate_left
      · intro f; simp only [putL, Act.put, List.setIfInBounds_toArray, List.set_cons_zero, List.set_cons_succ, Nat.zero_add, Nat.reduceAdd]; exact rfl
      refine Steps.pure (v := ?_) Keeps.refl rfl (fun f w' hR hV => ⟨?_, ?_⟩) ?_
      rotate_left
      · (rfl)
      · (clear hV; obtain ⟨x0, x1, x2, x3⟩ := HB.out _ ((Keeps.refl w1).drew.trans hR); go_simp; all_goals (try with_reducible rfl))
      refine Steps.pure (v := ?_) Keeps.refl rfl (fun f w' hR hV => ⟨?_, ?_⟩) ?_
      rotate_left
      · (rfl)
      · (obtain ⟨h0, _⟩ := hV; replace h0 : f 0 = _ := h0; obtain ⟨x0, x1, x2, x3⟩ := HB.out _ ((Keeps.refl w1).drew.trans hR); go_simp; all_goals (try with_reducible rfl))
      refine Steps.pure (v := ?_) Keeps.refl rfl (fun f w' hR hV => ⟨?_, ?_⟩) ?_
      rotate_left
      · (rfl)
      · (obtain ⟨h1, _⟩ := hV; replace h1 : f 1 = _ := h1; obtain ⟨x0, x1, x2, x3⟩ := HB.out _ ((Keeps.refl w1).drew.trans hR); go_simp; all_goals (try with_reducible rfl))
      refine Steps.pure (v := ?_) Keeps.refl rfl (fun f w' hR hV => ⟨?_, ?_⟩) ?_
      rotate_left
      · (rfl)
      · (obtain ⟨h2, _⟩ := hV; replace h2 : f 2 = _ := h2; obtain ⟨x0, x1, x2, x3⟩ := HB.out _ ((Keeps.refl w1).drew.trans hR); go_simp; all_goals (try with_reducible rfl))
      all_goals first
        | (refine Steps.pure (v := ?_) Keeps.refl rfl (fun f w' hR hV => ⟨?_, ?_⟩) ?_
           rotate_left
           · (obtain ⟨h3, _⟩ := hV; replace h3 : f 3 = _ := h3; exact want_yes (t := 19) rfl (by kernel_rfl) rfl h3)
           · (obtain ⟨h3, _⟩ := hV; replace h3 : f 3 = _ := h3; obtain ⟨x0, x1, x2, x3⟩ := HB.out _ ((Keeps.refl w1).drew.trans hR); go_simp; all_goals (try with_reducible rfl)))
        | (refine Steps.skip rfl (fun f w' hR hV => ?_) ?_
           · (obtain ⟨h3, _⟩ := hV; replace h3 : f 3 = _ := h3; first | exact want_no (t := 19) rfl (by kernel_rfl) rfl h3 rfl | exact want_undef (t := 19) rfl (by kernel_rfl) rfl h3))
      all_goals first
        | (refine Steps.pure (v := ?_) Keeps.refl rfl (fun f w' hR hV => ⟨?_, ?_⟩) ?_
           rotate_left
           · (obtain ⟨h3, _, _⟩ := hV; replace h3 : f 3 = _ := h3; exact want_yes (t := 19) rfl (by kernel_rfl) rfl h3)
           · (obtain ⟨h3, h4, _⟩ := hV; replace h3 : f 3 = _ := h3; replace h4 : f 4 = _ := h4; obtain ⟨x0, x1, x2, x3⟩ := HB.out _ ((Keeps.refl w1).drew.trans hR); go_simp; all_goals (try with_reducible rfl)))
        | (refine Steps.skip rfl (fun f w' hR hV => ?_) ?_
           · (obtain ⟨h3, _, _⟩ := hV; replace h3 : f 3 = _ := h3; first | exact want_no (t := 19) rfl (by kernel_rfl) rfl h3 rfl | exact want_undef (t := 19) rfl (by kernel_rfl) rfl h3))
      all_goals first
        | (refine Steps.pure (v := ?_) Keeps.refl rfl (fun f w' hR hV => ⟨?_, ?_⟩) ?_
           rotate_left
           · (obtain ⟨h3, _⟩ := hV; replace h3 : f 3 = _ := h3; exact want_yes (t := 19) rfl (by kernel_rfl) rfl h3)
           · (obtain ⟨h3, _⟩ := hV; replace h3 : f 3 = _ := h3; obtain ⟨x0, x1, x2, x3⟩ := HB.out _ ((Keeps.refl w1).drew.trans hR); go_simp; all_goals (try with_reducible rfl)))
        | (refine Steps.skip rfl (fun f w' hR hV => ?_) ?_
           · (obtain ⟨h3, _⟩ := hV; replace h3 : f 3 = _ := h3; first | exact want_no (t := 19) rfl (by kernel_rfl) rfl h3 rfl | exact want_undef (t := 19) rfl (by kernel_rfl) rfl h3))
      all_goals first
        | (refine Steps.pure (v := ?_) Keeps.refl rfl (fun f w' hR hV => ⟨?_, ?_⟩) ?_
           rotate_left
           · (obtain ⟨h3, _⟩ := hV; replace h3 : f 3 = _ := h3; exact want_yes (t := 19) rfl (by kernel_rfl) rfl h3)
           · (obtain ⟨h3, _⟩ := hV; replace h3 : f 3 = _ := h3; obtain ⟨x0, x1, x2, x3⟩ := HB.out _ ((Keeps.refl w1).drew.trans hR); go_simp; all_goals (try with_reducible rfl)))
        | (refine Steps.skip rfl (fun f w' hR hV => ?_) ?_
           · (obtain ⟨h3, _⟩ := hV; replace h3 : f 3 = _ := h3; first | exact want_no (t := 19) rfl (by kernel_rfl) rfl h3 rfl | exact want_undef (t := 19) rfl (by kernel_rfl) rfl h3))
      all_goals first
        | (refine Steps.pure (v := ?_) Keeps.refl rfl (fun f w' hR hV => ⟨?_, ?_⟩) ?_
           rotate_left
           · (obtain ⟨h3, _, _⟩ := hV; replace h3 : f 3 = _ := h3; exact want_yes (t := 19) rfl (by kernel_rfl) rfl h3)
           · (obtain ⟨h3, h7, _⟩ := hV; replace h3 : f 3 = _ := h3; replace h7 : f 7 = _ := h7; obtain ⟨x0, x1, x2, x3⟩ := HB.out _ ((Keeps.refl w1).drew.trans hR); go_simp; all_goals (try with_reducible rfl)))
        | (refine Steps.skip rfl (fun f w' hR hV => ?_) ?_
           · (obtain ⟨h3, _, _⟩ := hV; replace h3 : f 3 = _ := h3; first | exact want_no (t := 19) rfl (by kernel_rfl) rfl h3 rfl | exact want_undef (t := 19) rfl (by kernel_rfl) rfl h3))
      all_goals first
        | (refine Steps.pure (v := ?_) Keeps.refl rfl (fun f w' hR hV => ⟨?_, ?_⟩) ?_
           rotate_left
           · (obtain ⟨h3, _⟩ := hV; replace h3 : f 3 = _ := h3; exact want_yes (t := 19) rfl (by kernel_rfl) rfl h3)
           · (obtain ⟨h3, _⟩ := hV; replace h3 : f 3 = _ := h3; obtain ⟨x0, x1, x2, x3⟩ := HB.out _ ((Keeps.refl w1).drew.trans hR); go_simp; all_goals (try with_reducible rfl)))
        | (refine Steps.skip rfl (fun f w' hR hV => ?_) ?_
           · (obtain ⟨h3, _⟩ := hV; replace h3 : f 3 = _ := h3; first | exact want_no (t := 19) rfl (by kernel_rfl) rfl h3 rfl | exact want_undef (t := 19) rfl (by kernel_rfl) rfl h3))
      all_goals first
        | (refine Steps.pure (v := ?_) Keeps.refl rfl (fun f w' hR hV => ⟨?_, ?_⟩) ?_
           rotate_left
           · (obtain ⟨h3, _, _⟩ := hV; replace h3 : f 3 = _ := h3; exact want_yes (t := 19) rfl (by kernel_rfl) rfl h3)
           · (obtain ⟨h3, h9, _⟩ := hV; replace h3 : f 3 = _ := h3; replace h9 : f 9 = _ := h9; obtain ⟨x0, x1, x2, x3⟩ := HB.out _ ((Keeps.refl w1).drew.trans hR); go_simp; all_goals (try with_reducible rfl)))
        | (refine Steps.skip rfl (fun f w' hR hV => ?_) ?_
           · (obtain ⟨h3, _, _⟩ := hV; replace h3 : f 3 = _ := h3; first | exact want_no (t := 19) rfl (by kernel_rfl) rfl h3 rfl | exact want_undef (t := 19) rfl (by kernel_rfl) rfl h3))
      all_goals first
        | (refine Steps.pure (v := ?_) Keeps.refl rfl (fun f w' hR hV => ⟨?_, ?_⟩) ?_
           rotate_left
           · (obtain ⟨h3, _⟩ := hV; replace h3 : f 3 = _ := h3; exact want_yes (t := 19) rfl (by kernel_rfl) rfl h3)
           · (obtain ⟨h3, _⟩ := hV; replace h3 : f 3 = _ := h3; obtain ⟨x0, x1, x2, x3⟩ := HB.out _ ((Keeps.refl w1).drew.trans hR); go_simp; all_goals (try with_reducible rfl)))
        | (refine Steps.skip rfl (fun f w' hR hV => ?_) ?_
           · (obtain ⟨h3, _⟩ := hV; replace h3 : f 3 = _ := h3; first | exact want_no (t := 19) rfl (by kernel_rfl) rfl h3 rfl | exact want_undef (t := 19) rfl (by kernel_rfl) rfl h3))
      all_goals first
        | (refine Steps.pure (v := ?_) Keeps.refl rfl (fun f w' hR hV => ⟨?_, ?_⟩) ?_
           rotate_left
           · (obtain ⟨h3, _, _⟩ := hV; replace h3 : f 3 = _ := h3; exact want_yes (t := 19) rfl (by kernel_rfl) rfl h3)
           · (obtain ⟨h3, h11, _⟩ := hV; replace h3 : f 3 = _ := h3; replace h11 : f 11 = _ := h11; obtain ⟨x0, x1, x2, x3⟩ := HB.out _ ((Keeps.refl w1).drew.trans hR); go_simp; all_goals (try with_reducible rfl)))
        | (refine Steps.skip rfl (fun f w' hR hV => ?_) ?_
           · (obtain ⟨h3, _, _⟩ := hV; replace h3 : f 3 = _ := h3; first | exact want_no (t := 19) rfl (by kernel_rfl) rfl h3 rfl | exact want_undef (t := 19) rfl (by kernel_rfl) rfl h3))
      all_goals first
        | (refine Steps.call (fun _ v => v = .int .i64 s) rfl (fun _ _ _ _ h => h) (fun f w' hR hV => ⟨?_, ?_⟩) ?_
           · (obtain ⟨h3, _, _, _, _, _⟩ := hV; replace h3 : f 3 = _ := h3; exact want_yes (t := 19) rfl (by kernel_rfl) rfl h3)
           · (obtain ⟨h3, h6, h8, h10, h12, _⟩ := hV; replace h3 : f 3 = _ := h3; replace h6 : f 6 = _ := h6; replace h8 : f 8 = _ := h8; replace h10 : f 10 = _ := h10; replace h12 : f 12 = _ := h12; obtain ⟨x0, x1, x2, x3⟩ := HB.out _ ((Keeps.refl w1).drew.trans hR); go_simp; go_at_call 19; refine (HA1.out _ ((Keeps.refl w1).drew.trans hR)).mono ?_; rintro e w2 ⟨rfl, hk2⟩; exact StepPost.of _ rfl rfl hk2))
        | (refine Steps.skip rfl (fun f w' hR hV => ?_) ?_
           · (obtain ⟨h3, _, _, _, _, _⟩ := hV; replace h3 : f 3 = _ := h3; first | exact want_no (t := 19) rfl (by kernel_rfl) rfl h3 rfl | exact want_undef (t := 19) rfl (by kernel_rfl) rfl h3))
      all_goals first
        | (refine Steps.pure (v := ?_) Keeps.refl rfl (fun f w' hR hV => ⟨?_, ?_⟩) ?_
           rotate_left
           · (obtain ⟨h3, _, _, _⟩ := hV; replace h3 : f 3 = _ := h3; exact want_yes (t := 19) rfl (by kernel_rfl) rfl h3)
           · (obtain ⟨h3, h5, h13, _⟩ := hV; replace h3 : f 3 = _ := h3; replace h5 : f 5 = _ := h5; replace h13 : f 13 = _ := h13; obtain ⟨x0, x1, x2, x3⟩ := HB.out _ ((Keeps.refl w1).drew.trans hR); go_simp; all_goals (try with_reducible rfl)))
        | (refine Steps.skip rfl (fun f w' hR hV => ?_) ?_
           · (obtain ⟨h3, _, _, _⟩ := hV; replace h3 : f 3 = _ := h3; first | exact want_no (t := 19) rfl (by kernel_rfl) rfl h3 rfl | exact want_undef (t := 19) rfl (by kernel_rfl) rfl h3))
      all_goals (
        refine Steps.pure (v := ?_) Keeps.refl rfl (fun f w' hR hV => ⟨?_, ?_⟩) ?_
        rotate_left
        · (rfl)
        · (obtain ⟨h3, h14, _⟩ := hV; replace h3 : f 3 = _ := h3; replace h14 : f 14 = _ := h14; obtain ⟨x0, x1, x2, x3⟩ := HB.out _ ((Keeps.refl w1).drew.trans hR); go_simp; all_goals (try with_reducible rfl)))
      all_goals (refine Steps.done [15] (by kernel_rfl) rfl (fun f wq hR hV => ?_); obtain ⟨h15, _⟩ := hV; replace h15 : f 15 = _ := h15; simp only [h15])
      have HR := Lib.hid (K1.out.trans ((Keeps.refl w1).drew.trans hR))
      clear hR
      go_wp2_with fail
      go_ret
      exact ⟨rfl, HR.out⟩
    · have e2 : decide (h.share < s) = false := decide_eq_false hsh
      obtain ⟨⟨rl, re⟩, hr⟩ : ∃ r, setH n l h = r := ⟨_, rfl⟩
      have HRS : Hid (∀ W, Keeps w W → Calls Try.prog 26 #[.int .i64 n, .slice ao l.length cap, .agg #[.int .i64 h.holder, .int .i64 h.entity, .int .i64 h.date, .int .i64 h.share]] W fun e w' => ∃ ao cap b o, e = .returned (.tuple #[.slice ao rl.length cap, .int .i64 re]) ∧ Hols w' ao rl cap b o ∧ Keeps W w') := Lib.hid (fun W hk => by
        have := rset_any n ao l cap b o h W (HH.out.keeps hk) (by omega)
        rw [hr] at this
        exact this)
      obtain ⟨⟨cl, ce⟩, hcq⟩ : ∃ r, ctlR n l h.date = r := ⟨_, rfl⟩
      have HC1 : Hid (∀ W, Keeps w W → Calls Try.prog 33 #[.int .i64 n, .slice ao l.length cap, .int .i64 h.date] W fun e w' => ∃ ao cap b o, e = .returned (.tuple #[.slice ao cl.length cap, .int .i64 ce]) ∧ Sl w' 1 ao cl.length cap b o (cl.map .bool) ∧ Keeps W w') := Lib.hid (fun W hk => by
        have := controlled_any n l h.date ao cap b o W (HH.out.keeps hk) (by omega) HO.out
        rw [hcq] at this
        exact this)
      by_cases h0 : re = 0
      · obtain ⟨hrl, hv, hv2, hp⟩ := setH_cases hr h0
        subst h0
        have hdt := (properB_true hp).2.2.2.2.2.1
        have hlen := putH_len l h
        rw [← hrl] at hlen
        obtain ⟨hn1, hn2⟩ := hvalidB_n hv
        obtain ⟨m, rfl⟩ : ∃ m : Nat, n = (m : Int) := ⟨n.toNat, by omega⟩
        have q1 : ctlR (m : Int) l h.date = (fnB (inA (f0 l h.date) m m) m, 0) := by unfold ctlR; rw [matR_3 hv hdt]; simp
        have q2 : ctlR (m : Int) rl h.date = (fnB (inA (f0 rl h.date) m m) m, 0) := by unfold ctlR; rw [hrl, matR_3 hv2 hdt]; simp
        rw [q1] at hcq
        obtain ⟨rfl, rfl⟩ : fnB (inA (f0 l h.date) m m) m = cl ∧ (0 : Int) = ce := by simpa using hcq
        simp only [fnB_len] at HC1
        have HC2 : Hid (∀ W ao c b o, Hols W ao rl c b o → Calls Try.prog 33 #[.int .i64 (m : Int), .slice ao rl.length c, .int .i64 h.date] W fun e w' => ∃ ao cap b o, e = .returned (.tuple #[.slice ao m cap, .int .i64 0]) ∧ Sl w' 1 ao m cap b o ((fnB (inA (f0 rl h.date) m m) m).map .bool) ∧ Keeps W w') := Lib.hid (fun W ao c b o hh => by
          have := controlled_any (m : Int) rl h.date ao c b o W hh (by omega) (by rw [hrl]; exact putH_ok HO.out HHO.out)
          rw [q2] at this
          unfold OutBl at this
          simp only [fnB_len] at this
          exact this)
        have HG : Hid (∀ e, inA (f0 l h.date) m m e = true → inA (f0 rl h.date) m m e = true) := Lib.hid (by
          rw [hrl]
          exact fun e he => inA_grows (fun a c => (f0_bd hv2 h.date a c).1) (f0_grows hv2 (by rw [hs]; exact hsh)) m e he)
        clear hr hrl hv hv2 hp hdt hlen hn1 hn2 q1 q2 hcq hs
        go_enter Try.func13, Try.ntmps13
        go_wp2_with (go_at_call 32; refine (cawake_any _).mono ?_; rintro e w1 ⟨rfl, hk1⟩; have K1 := Lib.hid (((Keeps.refl w).alloc _).trans hk1); have HB : Hid (∀ w', Keeps w1 w' → w'.cell? ⟨w.heap.size, 0, none⟩ = some (.int .i64 h.holder) ∧ w'.cell? ⟨w.heap.size, 1, none⟩ = some (.int .i64 h.entity) ∧ w'.cell? ⟨w.heap.size, 2, none⟩ = some (.int .i64 h.date) ∧ w'.cell? ⟨w.heap.size, 3, none⟩ = some (.int .i64 h.share)) := Lib.hid (fun w' hw => have hh := hk1.trans hw; ⟨hh.cell (p := ⟨w.heap.size, 0, none⟩) (by go_simp), hh.cell (p := ⟨w.heap.size, 1, none⟩) (by go_simp), hh.cell (p := ⟨w.heap.size, 2, none⟩) (by go_simp), hh.cell (p := ⟨w.heap.size, 3, none⟩) (by go_simp)⟩); clear hk1)
        have HA1 := Lib.hid (HA0.out w1 K1.out)
        refine wp_region_steps (A := ?_) Keeps [some 16, some 17, some 18, some 19, some 20, some 21, some 22, some 23, some 24, some 25, some 26, some 27, some 28, some 29, some 30, some 31] [[], [0], [1], [2], [3], [3, 4], [3], [3], [3, 7], [3], [3, 9], [3], [3, 11], [3, 6, 8, 10, 12], [3, 5, 13], [3, 14]] 16 (by kernel_rfl) (by kernel_rfl) (by kernel_rfl) (by kernel_rfl) (by kernel_rfl) (by kernel_rfl) Keeps.refl (fun _ _ _ => Keeps.trans) ?_ ?_
        rotate_left
        · intro f; simp only [putL, Act.put, List.setIfInBounds_toArray, List.set_cons_zero, List.set_cons_succ, Nat.zero_add, Nat.reduceAdd]; exact rfl
        refine Steps.pure (v := ?_) Keeps.refl rfl (fun f w' hR hV => ⟨?_, ?_⟩) ?_
        rotate_left
        · (rfl)
        · (clear hV; obtain ⟨x0, x1, x2, x3⟩ := HB.out _ ((Keeps.refl w1).drew.trans hR); go_simp; all_goals (try with_reducible rfl))
        refine Steps.pure (v := ?_) Keeps.refl rfl (fun f w' hR hV => ⟨?_, ?_⟩) ?_
        rotate_left
        · (rfl)
        · (obtain ⟨h0, _⟩ := hV; replace h0 : f 0 = _ := h0; obtain ⟨x0, x1, x2, x3⟩ := HB.out _ ((Keeps.refl w1).drew.trans hR); go_simp; all_goals (try with_reducible rfl))
        refine Steps.pure (v := ?_) Keeps.refl rfl (fun f w' hR hV => ⟨?_, ?_⟩) ?_
        rotate_left
        · (rfl)
        · (obtain ⟨h1, _⟩ := hV; replace h1 : f 1 = _ := h1; obtain ⟨x0, x1, x2, x3⟩ := HB.out _ ((Keeps.refl w1).drew.trans hR); go_simp; all_goals (try with_reducible rfl))
        refine Steps.pure (v := ?_) Keeps.refl rfl (fun f w' hR hV => ⟨?_, ?_⟩) ?_
        rotate_left
        · (rfl)
        · (obtain ⟨h2, _⟩ := hV; replace h2 : f 2 = _ := h2; obtain ⟨x0, x1, x2, x3⟩ := HB.out _ ((Keeps.refl w1).drew.trans hR); go_simp; all_goals (try with_reducible rfl))
        all_goals first
          | (refine Steps.pure (v := ?_) Keeps.refl rfl (fun f w' hR hV => ⟨?_, ?_⟩) ?_
             rotate_left
             · (obtain ⟨h3, _⟩ := hV; replace h3 : f 3 = _ := h3; exact want_yes (t := 19) rfl (by kernel_rfl) rfl h3)
             · (obtain ⟨h3, _⟩ := hV; replace h3 : f 3 = _ := h3; obtain ⟨x0, x1, x2, x3⟩ := HB.out _ ((Keeps.refl w1).drew.trans hR); go_simp; all_goals (try with_reducible rfl)))
          | (refine Steps.skip rfl (fun f w' hR hV => ?_) ?_
             · (obtain ⟨h3, _⟩ := hV; replace h3 : f 3 = _ := h3; first | exact want_no (t := 19) rfl (by kernel_rfl) rfl h3 rfl | exact want_undef (t := 19) rfl (by kernel_rfl) rfl h3))
        all_goals first
          | (refine Steps.pure (v := ?_) Keeps.refl rfl (fun f w' hR hV => ⟨?_, ?_⟩) ?_
             rotate_left
             · (obtain ⟨h3, _, _⟩ := hV; replace h3 : f 3 = _ := h3; exact want_yes (t := 19) rfl (by kernel_rfl) rfl h3)
             · (obtain ⟨h3, h4, _⟩ := hV; replace h3 : f 3 = _ := h3; replace h4 : f 4 = _ := h4; obtain ⟨x0, x1, x2, x3⟩ := HB.out _ ((Keeps.refl w1).drew.trans hR); go_simp; all_goals (try with_reducible rfl)))
          | (refine Steps.skip rfl (fun f w' hR hV => ?_) ?_
             · (obtain ⟨h3, _, _⟩ := hV; replace h3 : f 3 = _ := h3; first | exact want_no (t := 19) rfl (by kernel_rfl) rfl h3 rfl | exact want_undef (t := 19) rfl (by kernel_rfl) rfl h3))
        all_goals first
          | (refine Steps.pure (v := ?_) Keeps.refl rfl (fun f w' hR hV => ⟨?_, ?_⟩) ?_
             rotate_left
             · (obtain ⟨h3, _⟩ := hV; replace h3 : f 3 = _ := h3; exact want_yes (t := 19) rfl (by kernel_rfl) rfl h3)
             · (obtain ⟨h3, _⟩ := hV; replace h3 : f 3 = _ := h3; obtain ⟨x0, x1, x2, x3⟩ := HB.out _ ((Keeps.refl w1).drew.trans hR); go_simp; all_goals (try with_reducible rfl)))
          | (refine Steps.skip rfl (fun f w' hR hV => ?_) ?_
             · (obtain ⟨h3, _⟩ := hV; replace h3 : f 3 = _ := h3; first | exact want_no (t := 19) rfl (by kernel_rfl) rfl h3 rfl | exact want_undef (t := 19) rfl (by kernel_rfl) rfl h3))
        all_goals first
          | (refine Steps.pure (v := ?_) Keeps.refl rfl (fun f w' hR hV => ⟨?_, ?_⟩) ?_
             rotate_left
             · (obtain ⟨h3, _⟩ := hV; replace h3 : f 3 = _ := h3; exact want_yes (t := 19) rfl (by kernel_rfl) rfl h3)
             · (obtain ⟨h3, _⟩ := hV; replace h3 : f 3 = _ := h3; obtain ⟨x0, x1, x2, x3⟩ := HB.out _ ((Keeps.refl w1).drew.trans hR); go_simp; all_goals (try with_reducible rfl)))
          | (refine Steps.skip rfl (fun f w' hR hV => ?_) ?_
             · (obtain ⟨h3, _⟩ := hV; replace h3 : f 3 = _ := h3; first | exact want_no (t := 19) rfl (by kernel_rfl) rfl h3 rfl | exact want_undef (t := 19) rfl (by kernel_rfl) rfl h3))
        all_goals first
          | (refine Steps.pure (v := ?_) Keeps.refl rfl (fun f w' hR hV => ⟨?_, ?_⟩) ?_
             rotate_left
             · (obtain ⟨h3, _, _⟩ := hV; replace h3 : f 3 = _ := h3; exact want_yes (t := 19) rfl (by kernel_rfl) rfl h3)
             · (obtain ⟨h3, h7, _⟩ := hV; replace h3 : f 3 = _ := h3; replace h7 : f 7 = _ := h7; obtain ⟨x0, x1, x2, x3⟩ := HB.out _ ((Keeps.refl w1).drew.trans hR); go_simp; all_goals (try with_reducible rfl)))
          | (refine Steps.skip rfl (fun f w' hR hV => ?_) ?_
             · (obtain ⟨h3, _, _⟩ := hV; replace h3 : f 3 = _ := h3; first | exact want_no (t := 19) rfl (by kernel_rfl) rfl h3 rfl | exact want_undef (t := 19) rfl (by kernel_rfl) rfl h3))
        all_goals first
          | (refine Steps.pure (v := ?_) Keeps.refl rfl (fun f w' hR hV => ⟨?_, ?_⟩) ?_
             rotate_left
             · (obtain ⟨h3, _⟩ := hV; replace h3 : f 3 = _ := h3; exact want_yes (t := 19) rfl (by kernel_rfl) rfl h3)
             · (obtain ⟨h3, _⟩ := hV; replace h3 : f 3 = _ := h3; obtain ⟨x0, x1, x2, x3⟩ := HB.out _ ((Keeps.refl w1).drew.trans hR); go_simp; all_goals (try with_reducible rfl)))
          | (refine Steps.skip rfl (fun f w' hR hV => ?_) ?_
             · (obtain ⟨h3, _⟩ := hV; replace h3 : f 3 = _ := h3; first | exact want_no (t := 19) rfl (by kernel_rfl) rfl h3 rfl | exact want_undef (t := 19) rfl (by kernel_rfl) rfl h3))
        all_goals first
          | (refine Steps.pure (v := ?_) Keeps.refl rfl (fun f w' hR hV => ⟨?_, ?_⟩) ?_
             rotate_left
             · (obtain ⟨h3, _, _⟩ := hV; replace h3 : f 3 = _ := h3; exact want_yes (t := 19) rfl (by kernel_rfl) rfl h3)
             · (obtain ⟨h3, h9, _⟩ := hV; replace h3 : f 3 = _ := h3; replace h9 : f 9 = _ := h9; obtain ⟨x0, x1, x2, x3⟩ := HB.out _ ((Keeps.refl w1).drew.trans hR); go_simp; all_goals (try with_reducible rfl)))
          | (refine Steps.skip rfl (fun f w' hR hV => ?_) ?_
             · (obtain ⟨h3, _, _⟩ := hV; replace h3 : f 3 = _ := h3; first | exact want_no (t := 19) rfl (by kernel_rfl) rfl h3 rfl | exact want_undef (t := 19) rfl (by kernel_rfl) rfl h3))
        all_goals first
          | (refine Steps.pure (v := ?_) Keeps.refl rfl (fun f w' hR hV => ⟨?_, ?_⟩) ?_
             rotate_left
             · (obtain ⟨h3, _⟩ := hV; replace h3 : f 3 = _ := h3; exact want_yes (t := 19) rfl (by kernel_rfl) rfl h3)
             · (obtain ⟨h3, _⟩ := hV; replace h3 : f 3 = _ := h3; obtain ⟨x0, x1, x2, x3⟩ := HB.out _ ((Keeps.refl w1).drew.trans hR); go_simp; all_goals (try with_reducible rfl)))
          | (refine Steps.skip rfl (fun f w' hR hV => ?_) ?_
             · (obtain ⟨h3, _⟩ := hV; replace h3 : f 3 = _ := h3; first | exact want_no (t := 19) rfl (by kernel_rfl) rfl h3 rfl | exact want_undef (t := 19) rfl (by kernel_rfl) rfl h3))
        all_goals first
          | (refine Steps.pure (v := ?_) Keeps.refl rfl (fun f w' hR hV => ⟨?_, ?_⟩) ?_
             rotate_left
             · (obtain ⟨h3, _, _⟩ := hV; replace h3 : f 3 = _ := h3; exact want_yes (t := 19) rfl (by kernel_rfl) rfl h3)
             · (obtain ⟨h3, h11, _⟩ := hV; replace h3 : f 3 = _ := h3; replace h11 : f 11 = _ := h11; obtain ⟨x0, x1, x2, x3⟩ := HB.out _ ((Keeps.refl w1).drew.trans hR); go_simp; all_goals (try with_reducible rfl)))
          | (refine Steps.skip rfl (fun f w' hR hV => ?_) ?_
             · (obtain ⟨h3, _, _⟩ := hV; replace h3 : f 3 = _ := h3; first | exact want_no (t := 19) rfl (by kernel_rfl) rfl h3 rfl | exact want_undef (t := 19) rfl (by kernel_rfl) rfl h3))
        all_goals first
          | (refine Steps.call (fun _ v => v = .int .i64 s) rfl (fun _ _ _ _ h => h) (fun f w' hR hV => ⟨?_, ?_⟩) ?_
             · (obtain ⟨h3, _, _, _, _, _⟩ := hV; replace h3 : f 3 = _ := h3; exact want_yes (t := 19) rfl (by kernel_rfl) rfl h3)
             · (obtain ⟨h3, h6, h8, h10, h12, _⟩ := hV; replace h3 : f 3 = _ := h3; replace h6 : f 6 = _ := h6; replace h8 : f 8 = _ := h8; replace h10 : f 10 = _ := h10; replace h12 : f 12 = _ := h12; obtain ⟨x0, x1, x2, x3⟩ := HB.out _ ((Keeps.refl w1).drew.trans hR); go_simp; go_at_call 19; refine (HA1.out _ ((Keeps.refl w1).drew.trans hR)).mono ?_; rintro e w2 ⟨rfl, hk2⟩; exact StepPost.of _ rfl rfl hk2))
          | (refine Steps.skip rfl (fun f w' hR hV => ?_) ?_
             · (obtain ⟨h3, _, _, _, _, _⟩ := hV; replace h3 : f 3 = _ := h3; first | exact want_no (t := 19) rfl (by kernel_rfl) rfl h3 rfl | exact want_undef (t := 19) rfl (by kernel_rfl) rfl h3))
        all_goals first
          | (refine Steps.pure (v := ?_) Keeps.refl rfl (fun f w' hR hV => ⟨?_, ?_⟩) ?_
             rotate_left
             · (obtain ⟨h3, _, _, _⟩ := hV; replace h3 : f 3 = _ := h3; exact want_yes (t := 19) rfl (by kernel_rfl) rfl h3)
             · (obtain ⟨h3, h5, h13, _⟩ := hV; replace h3 : f 3 = _ := h3; replace h5 : f 5 = _ := h5; replace h13 : f 13 = _ := h13; obtain ⟨x0, x1, x2, x3⟩ := HB.out _ ((Keeps.refl w1).drew.trans hR); go_simp; all_goals (try with_reducible rfl)))
          | (refine Steps.skip rfl (fun f w' hR hV => ?_) ?_
             · (obtain ⟨h3, _, _, _⟩ := hV; replace h3 : f 3 = _ := h3; first | exact want_no (t := 19) rfl (by kernel_rfl) rfl h3 rfl | exact want_undef (t := 19) rfl (by kernel_rfl) rfl h3))
        all_goals (
          refine Steps.pure (v := ?_) Keeps.refl rfl (fun f w' hR hV => ⟨?_, ?_⟩) ?_
          rotate_left
          · (rfl)
          · (obtain ⟨h3, h14, _⟩ := hV; replace h3 : f 3 = _ := h3; replace h14 : f 14 = _ := h14; obtain ⟨x0, x1, x2, x3⟩ := HB.out _ ((Keeps.refl w1).drew.trans hR); go_simp; all_goals (try with_reducible rfl)))
        all_goals (refine Steps.done [15] (by kernel_rfl) rfl (fun f wq hR hV => ?_); obtain ⟨h15, _⟩ := hV; replace h15 : f 15 = _ := h15; simp only [h15])
        have HR := Lib.hid (K1.out.trans ((Keeps.refl w1).drew.trans hR))
        have HR1 := Lib.hid ((Keeps.refl w1).drew.trans hR)
        clear hR
        obtain ⟨x0, x1, x2, x3⟩ := HB.out _ HR1.out; have hzx := World.block_lt_of_cell? _ _ x0
        go_wp2_with (first | (go_at_call 33; (with_reducible refine (HC2.out _ _ _ _ _ HS3.out).mono ?_); rintro e w4 ⟨ao4, cap4, b4, o4, rfl, hs4, hk4⟩; have HS4 := Lib.hid hs4; have HS24 := Lib.hid ((HS2.out.keeps D3.out).keeps hk4); have K4 := Lib.hid (K3.out.trans hk4); have hc4 := hs4.cap; have hl4 := hs4.le; clear hs4 hk4) | (go_at_call 26; (with_reducible refine (HRS.out _ K2.out).mono ?_); rintro e w3 ⟨ao3, cap3, b3, o3, rfl, hs3, hk3⟩; have HS3 := Lib.hid hs3; have K3 := Lib.hid (K2.out.trans hk3); have D3 := Lib.hid hk3; have B3 := Lib.hid (B2.out.trans hk3); clear hs3 hk3 x0 x1 x2 x3 hzx; obtain ⟨x0, x1, x2, x3⟩ := HB.out _ B3.out; have hzx := World.block_lt_of_cell? _ _ x0) | (go_at_call 33; (with_reducible refine (HC1.out _ HR.out).mono ?_); rintro e w2 ⟨ao2, cap2, b2, o2, rfl, hs2, hk2⟩; have HS2 := Lib.hid hs2; have K2 := Lib.hid (HR.out.trans hk2); have B2 := Lib.hid (HR1.out.trans hk2); have hc2 := hs2.cap; have hl2 := hs2.le; clear hs2 hk2 x0 x1 x2 x3 hzx; obtain ⟨x0, x1, x2, x3⟩ := HB.out _ B2.out; have hzx := World.block_lt_of_cell? _ _ x0))
        go_loopw [13] (fun vi wy => ∃ k : Nat, k ≤ m ∧ vi = .int .i64 k ∧ wy = w4) (fun vi _ => m - (intOf vi).toNat)
        case atStart => exact ⟨0, Nat.zero_le _, rfl, rfl⟩
        case round =>
          obtain ⟨k, hk, rfl, rfl⟩ := hrel
          by_cases hlk : k < m
          · have c1 := fnB_cell HS24.out k hlk
            have hix := HS24.out.at1 Try.underlying48 Try.sizeOf4 k hlk
            have c2 := fnB_cell HS4.out k hlk
            have hix2 := HS4.out.at1 Try.underlying48 Try.sizeOf4 k hlk
            have hg := HG.out k
            obtain ⟨q, hq⟩ : ∃ q, inA (f0 l h.date) m m k = q := ⟨_, rfl⟩
            rw [hq] at c1 hg
            clear hq
            cases q with
            | true =>
              rw [hg rfl] at c2
              clear hg
              go_wp2_with fail
              go_roundw
              case rel => exact ⟨k + 1, by omega, by go_num, trivial⟩
              case measure => simp [intOf]; omega
            | false =>
              clear hg
              go_wp2_with fail
              go_roundw
              case rel => exact ⟨k + 1, by omega, by go_num, trivial⟩
              case measure => simp [intOf]; omega
          · go_wp2_with fail
            go_ret
            exact ⟨rfl, K4.out⟩
      · have e3 : (!(re == 0)) = true := by simpa using h0
        clear hr hcq hs
        go_enter Try.func13, Try.ntmps13
        go_wp2_with (go_at_call 32; refine (cawake_any _).mono ?_; rintro e w1 ⟨rfl, hk1⟩; have K1 := Lib.hid (((Keeps.refl w).alloc _).trans hk1); have HB : Hid (∀ w', Keeps w1 w' → w'.cell? ⟨w.heap.size, 0, none⟩ = some (.int .i64 h.holder) ∧ w'.cell? ⟨w.heap.size, 1, none⟩ = some (.int .i64 h.entity) ∧ w'.cell? ⟨w.heap.size, 2, none⟩ = some (.int .i64 h.date) ∧ w'.cell? ⟨w.heap.size, 3, none⟩ = some (.int .i64 h.share)) := Lib.hid (fun w' hw => have hh := hk1.trans hw; ⟨hh.cell (p := ⟨w.heap.size, 0, none⟩) (by go_simp), hh.cell (p := ⟨w.heap.size, 1, none⟩) (by go_simp), hh.cell (p := ⟨w.heap.size, 2, none⟩) (by go_simp), hh.cell (p := ⟨w.heap.size, 3, none⟩) (by go_simp)⟩); clear hk1)
        have HA1 := Lib.hid (HA0.out w1 K1.out)
        refine wp_region_steps (A := ?_) Keeps [some 16, some 17, some 18, some 19, some 20, some 21, some 22, some 23, some 24, some 25, some 26, some 27, some 28, some 29, some 30, some 31] [[], [0], [1], [2], [3], [3, 4], [3], [3], [3, 7], [3], [3, 9], [3], [3, 11], [3, 6, 8, 10, 12], [3, 5, 13], [3, 14]] 16 (by kernel_rfl) (by kernel_rfl) (by kernel_rfl) (by kernel_rfl) (by kernel_rfl) (by kernel_rfl) Keeps.refl (fun _ _ _ => Keeps.trans) ?_ ?_
        rotate_left
        · intro f; simp only [putL, Act.put, List.setIfInBounds_toArray, List.set_cons_zero, List.set_cons_succ, Nat.zero_add, Nat.reduceAdd]; exact rfl
        refine Steps.pure (v := ?_) Keeps.refl rfl (fun f w' hR hV => ⟨?_, ?_⟩) ?_
        rotate_left
        · (rfl)
        · (clear hV; obtain ⟨x0, x1, x2, x3⟩ := HB.out _ ((Keeps.refl w1).drew.trans hR); go_simp; all_goals (try with_reducible rfl))
        refine Steps.pure (v := ?_) Keeps.refl rfl (fun f w' hR hV => ⟨?_, ?_⟩) ?_
        rotate_left
        · (rfl)
        · (obtain ⟨h0, _⟩ := hV; replace h0 : f 0 = _ := h0; obtain ⟨x0, x1, x2, x3⟩ := HB.out _ ((Keeps.refl w1).drew.trans hR); go_simp; all_goals (try with_reducible rfl))
        refine Steps.pure (v := ?_) Keeps.refl rfl (fun f w' hR hV => ⟨?_, ?_⟩) ?_
        rotate_left
        · (rfl)
        · (obtain ⟨h1, _⟩ := hV; replace h1 : f 1 = _ := h1; obtain ⟨x0, x1, x2, x3⟩ := HB.out _ ((Keeps.refl w1).drew.trans hR); go_simp; all_goals (try with_reducible rfl))
        refine Steps.pure (v := ?_) Keeps.refl rfl (fun f w' hR hV => ⟨?_, ?_⟩) ?_
        rotate_left
        · (rfl)
        · (obtain ⟨h2, _⟩ := hV; replace h2 : f 2 = _ := h2; obtain ⟨x0, x1, x2, x3⟩ := HB.out _ ((Keeps.refl w1).drew.trans hR); go_simp; all_goals (try with_reducible rfl))
        all_goals first
          | (refine Steps.pure (v := ?_) Keeps.refl rfl (fun f w' hR hV => ⟨?_, ?_⟩) ?_
             rotate_left
             · (obtain ⟨h3, _⟩ := hV; replace h3 : f 3 = _ := h3; exact want_yes (t := 19) rfl (by kernel_rfl) rfl h3)
             · (obtain ⟨h3, _⟩ := hV; replace h3 : f 3 = _ := h3; obtain ⟨x0, x1, x2, x3⟩ := HB.out _ ((Keeps.refl w1).drew.trans hR); go_simp; all_goals (try with_reducible rfl)))
          | (refine Steps.skip rfl (fun f w' hR hV => ?_) ?_
             · (obtain ⟨h3, _⟩ := hV; replace h3 : f 3 = _ := h3; first | exact want_no (t := 19) rfl (by kernel_rfl) rfl h3 rfl | exact want_undef (t := 19) rfl (by kernel_rfl) rfl h3))
        all_goals first
          | (refine Steps.pure (v := ?_) Keeps.refl rfl (fun f w' hR hV => ⟨?_, ?_⟩) ?_
             rotate_left
             · (obtain ⟨h3, _, _⟩ := hV; replace h3 : f 3 = _ := h3; exact want_yes (t := 19) rfl (by kernel_rfl) rfl h3)
             · (obtain ⟨h3, h4, _⟩ := hV; replace h3 : f 3 = _ := h3; replace h4 : f 4 = _ := h4; obtain ⟨x0, x1, x2, x3⟩ := HB.out _ ((Keeps.refl w1).drew.trans hR); go_simp; all_goals (try with_reducible rfl)))
          | (refine Steps.skip rfl (fun f w' hR hV => ?_) ?_
             · (obtain ⟨h3, _, _⟩ := hV; replace h3 : f 3 = _ := h3; first | exact want_no (t := 19) rfl (by kernel_rfl) rfl h3 rfl | exact want_undef (t := 19) rfl (by kernel_rfl) rfl h3))
        all_goals first
          | (refine Steps.pure (v := ?_) Keeps.refl rfl (fun f w' hR hV => ⟨?_, ?_⟩) ?_
             rotate_left
             · (obtain ⟨h3, _⟩ := hV; replace h3 : f 3 = _ := h3; exact want_yes (t := 19) rfl (by kernel_rfl) rfl h3)
             · (obtain ⟨h3, _⟩ := hV; replace h3 : f 3 = _ := h3; obtain ⟨x0, x1, x2, x3⟩ := HB.out _ ((Keeps.refl w1).drew.trans hR); go_simp; all_goals (try with_reducible rfl)))
          | (refine Steps.skip rfl (fun f w' hR hV => ?_) ?_
             · (obtain ⟨h3, _⟩ := hV; replace h3 : f 3 = _ := h3; first | exact want_no (t := 19) rfl (by kernel_rfl) rfl h3 rfl | exact want_undef (t := 19) rfl (by kernel_rfl) rfl h3))
        all_goals first
          | (refine Steps.pure (v := ?_) Keeps.refl rfl (fun f w' hR hV => ⟨?_, ?_⟩) ?_
             rotate_left
             · (obtain ⟨h3, _⟩ := hV; replace h3 : f 3 = _ := h3; exact want_yes (t := 19) rfl (by kernel_rfl) rfl h3)
             · (obtain ⟨h3, _⟩ := hV; replace h3 : f 3 = _ := h3; obtain ⟨x0, x1, x2, x3⟩ := HB.out _ ((Keeps.refl w1).drew.trans hR); go_simp; all_goals (try with_reducible rfl)))
          | (refine Steps.skip rfl (fun f w' hR hV => ?_) ?_
             · (obtain ⟨h3, _⟩ := hV; replace h3 : f 3 = _ := h3; first | exact want_no (t := 19) rfl (by kernel_rfl) rfl h3 rfl | exact want_undef (t := 19) rfl (by kernel_rfl) rfl h3))
        all_goals first
          | (refine Steps.pure (v := ?_) Keeps.refl rfl (fun f w' hR hV => ⟨?_, ?_⟩) ?_
             rotate_left
             · (obtain ⟨h3, _, _⟩ := hV; replace h3 : f 3 = _ := h3; exact want_yes (t := 19) rfl (by kernel_rfl) rfl h3)
             · (obtain ⟨h3, h7, _⟩ := hV; replace h3 : f 3 = _ := h3; replace h7 : f 7 = _ := h7; obtain ⟨x0, x1, x2, x3⟩ := HB.out _ ((Keeps.refl w1).drew.trans hR); go_simp; all_goals (try with_reducible rfl)))
          | (refine Steps.skip rfl (fun f w' hR hV => ?_) ?_
             · (obtain ⟨h3, _, _⟩ := hV; replace h3 : f 3 = _ := h3; first | exact want_no (t := 19) rfl (by kernel_rfl) rfl h3 rfl | exact want_undef (t := 19) rfl (by kernel_rfl) rfl h3))
        all_goals first
          | (refine Steps.pure (v := ?_) Keeps.refl rfl (fun f w' hR hV => ⟨?_, ?_⟩) ?_
             rotate_left
             · (obtain ⟨h3, _⟩ := hV; replace h3 : f 3 = _ := h3; exact want_yes (t := 19) rfl (by kernel_rfl) rfl h3)
             · (obtain ⟨h3, _⟩ := hV; replace h3 : f 3 = _ := h3; obtain ⟨x0, x1, x2, x3⟩ := HB.out _ ((Keeps.refl w1).drew.trans hR); go_simp; all_goals (try with_reducible rfl)))
          | (refine Steps.skip rfl (fun f w' hR hV => ?_) ?_
             · (obtain ⟨h3, _⟩ := hV; replace h3 : f 3 = _ := h3; first | exact want_no (t := 19) rfl (by kernel_rfl) rfl h3 rfl | exact want_undef (t := 19) rfl (by kernel_rfl) rfl h3))
        all_goals first
          | (refine Steps.pure (v := ?_) Keeps.refl rfl (fun f w' hR hV => ⟨?_, ?_⟩) ?_
             rotate_left
             · (obtain ⟨h3, _, _⟩ := hV; replace h3 : f 3 = _ := h3; exact want_yes (t := 19) rfl (by kernel_rfl) rfl h3)
             · (obtain ⟨h3, h9, _⟩ := hV; replace h3 : f 3 = _ := h3; replace h9 : f 9 = _ := h9; obtain ⟨x0, x1, x2, x3⟩ := HB.out _ ((Keeps.refl w1).drew.trans hR); go_simp; all_goals (try with_reducible rfl)))
          | (refine Steps.skip rfl (fun f w' hR hV => ?_) ?_
             · (obtain ⟨h3, _, _⟩ := hV; replace h3 : f 3 = _ := h3; first | exact want_no (t := 19) rfl (by kernel_rfl) rfl h3 rfl | exact want_undef (t := 19) rfl (by kernel_rfl) rfl h3))
        all_goals first
          | (refine Steps.pure (v := ?_) Keeps.refl rfl (fun f w' hR hV => ⟨?_, ?_⟩) ?_
             rotate_left
             · (obtain ⟨h3, _⟩ := hV; replace h3 : f 3 = _ := h3; exact want_yes (t := 19) rfl (by kernel_rfl) rfl h3)
             · (obtain ⟨h3, _⟩ := hV; replace h3 : f 3 = _ := h3; obtain ⟨x0, x1, x2, x3⟩ := HB.out _ ((Keeps.refl w1).drew.trans hR); go_simp; all_goals (try with_reducible rfl)))
          | (refine Steps.skip rfl (fun f w' hR hV => ?_) ?_
             · (obtain ⟨h3, _⟩ := hV; replace h3 : f 3 = _ := h3; first | exact want_no (t := 19) rfl (by kernel_rfl) rfl h3 rfl | exact want_undef (t := 19) rfl (by kernel_rfl) rfl h3))
        all_goals first
          | (refine Steps.pure (v := ?_) Keeps.refl rfl (fun f w' hR hV => ⟨?_, ?_⟩) ?_
             rotate_left
             · (obtain ⟨h3, _, _⟩ := hV; replace h3 : f 3 = _ := h3; exact want_yes (t := 19) rfl (by kernel_rfl) rfl h3)
             · (obtain ⟨h3, h11, _⟩ := hV; replace h3 : f 3 = _ := h3; replace h11 : f 11 = _ := h11; obtain ⟨x0, x1, x2, x3⟩ := HB.out _ ((Keeps.refl w1).drew.trans hR); go_simp; all_goals (try with_reducible rfl)))
          | (refine Steps.skip rfl (fun f w' hR hV => ?_) ?_
             · (obtain ⟨h3, _, _⟩ := hV; replace h3 : f 3 = _ := h3; first | exact want_no (t := 19) rfl (by kernel_rfl) rfl h3 rfl | exact want_undef (t := 19) rfl (by kernel_rfl) rfl h3))
        all_goals first
          | (refine Steps.call (fun _ v => v = .int .i64 s) rfl (fun _ _ _ _ h => h) (fun f w' hR hV => ⟨?_, ?_⟩) ?_
             · (obtain ⟨h3, _, _, _, _, _⟩ := hV; replace h3 : f 3 = _ := h3; exact want_yes (t := 19) rfl (by kernel_rfl) rfl h3)
             · (obtain ⟨h3, h6, h8, h10, h12, _⟩ := hV; replace h3 : f 3 = _ := h3; replace h6 : f 6 = _ := h6; replace h8 : f 8 = _ := h8; replace h10 : f 10 = _ := h10; replace h12 : f 12 = _ := h12; obtain ⟨x0, x1, x2, x3⟩ := HB.out _ ((Keeps.refl w1).drew.trans hR); go_simp; go_at_call 19; refine (HA1.out _ ((Keeps.refl w1).drew.trans hR)).mono ?_; rintro e w2 ⟨rfl, hk2⟩; exact StepPost.of _ rfl rfl hk2))
          | (refine Steps.skip rfl (fun f w' hR hV => ?_) ?_
             · (obtain ⟨h3, _, _, _, _, _⟩ := hV; replace h3 : f 3 = _ := h3; first | exact want_no (t := 19) rfl (by kernel_rfl) rfl h3 rfl | exact want_undef (t := 19) rfl (by kernel_rfl) rfl h3))
        all_goals first
          | (refine Steps.pure (v := ?_) Keeps.refl rfl (fun f w' hR hV => ⟨?_, ?_⟩) ?_
             rotate_left
             · (obtain ⟨h3, _, _, _⟩ := hV; replace h3 : f 3 = _ := h3; exact want_yes (t := 19) rfl (by kernel_rfl) rfl h3)
             · (obtain ⟨h3, h5, h13, _⟩ := hV; replace h3 : f 3 = _ := h3; replace h5 : f 5 = _ := h5; replace h13 : f 13 = _ := h13; obtain ⟨x0, x1, x2, x3⟩ := HB.out _ ((Keeps.refl w1).drew.trans hR); go_simp; all_goals (try with_reducible rfl)))
          | (refine Steps.skip rfl (fun f w' hR hV => ?_) ?_
             · (obtain ⟨h3, _, _, _⟩ := hV; replace h3 : f 3 = _ := h3; first | exact want_no (t := 19) rfl (by kernel_rfl) rfl h3 rfl | exact want_undef (t := 19) rfl (by kernel_rfl) rfl h3))
        all_goals (
          refine Steps.pure (v := ?_) Keeps.refl rfl (fun f w' hR hV => ⟨?_, ?_⟩) ?_
          rotate_left
          · (rfl)
          · (obtain ⟨h3, h14, _⟩ := hV; replace h3 : f 3 = _ := h3; replace h14 : f 14 = _ := h14; obtain ⟨x0, x1, x2, x3⟩ := HB.out _ ((Keeps.refl w1).drew.trans hR); go_simp; all_goals (try with_reducible rfl)))
        all_goals (refine Steps.done [15] (by kernel_rfl) rfl (fun f wq hR hV => ?_); obtain ⟨h15, _⟩ := hV; replace h15 : f 15 = _ := h15; simp only [h15])
        have HR := Lib.hid (K1.out.trans ((Keeps.refl w1).drew.trans hR))
        have HR1 := Lib.hid ((Keeps.refl w1).drew.trans hR)
        clear hR
        obtain ⟨x0, x1, x2, x3⟩ := HB.out _ HR1.out; have hzx := World.block_lt_of_cell? _ _ x0
        go_wp2_with (first | (go_at_call 26; (with_reducible refine (HRS.out _ K2.out).mono ?_); rintro e w3 ⟨ao3, cap3, b3, o3, rfl, hs3, hk3⟩; have K3 := Lib.hid (K2.out.trans hk3); clear hs3 hk3) | (go_at_call 33; (with_reducible refine (HC1.out _ HR.out).mono ?_); rintro e w2 ⟨ao2, cap2, b2, o2, rfl, hs2, hk2⟩; have K2 := Lib.hid (HR.out.trans hk2); have B2 := Lib.hid (HR1.out.trans hk2); clear hs2 hk2 x0 x1 x2 x3 hzx; obtain ⟨x0, x1, x2, x3⟩ := HB.out _ B2.out; have hzx := World.block_lt_of_cell? _ _ x0))
        go_ret
        exact ⟨rfl, K3.out⟩
  · have e1 : decide ((30 : Int) < (l.length : Int)) = true := decide_eq_true (by omega)
    clear hs
    go_enter Try.func13, Try.ntmps13
    go_wp2_with (go_at_call 32; refine (cawake_any _).mono ?_; rintro e w1 ⟨rfl, hk1⟩; have K1 := Lib.hid (((Keeps.refl w).alloc _).trans hk1); have HB : Hid (∀ w', Keeps w1 w' → w'.cell? ⟨w.heap.size, 0, none⟩ = some (.int .i64 h.holder) ∧ w'.cell? ⟨w.heap.size, 1, none⟩ = some (.int .i64 h.entity) ∧ w'.cell? ⟨w.heap.size, 2, none⟩ = some (.int .i64 h.date) ∧ w'.cell? ⟨w.heap.size, 3, none⟩ = some (.int .i64 h.share)) := Lib.hid (fun w' hw => have hh := hk1.trans hw; ⟨hh.cell (p := ⟨w.heap.size, 0, none⟩) (by go_simp), hh.cell (p := ⟨w.heap.size, 1, none⟩) (by go_simp), hh.cell (p := ⟨w.heap.size, 2, none⟩) (by go_simp), hh.cell (p := ⟨w.heap.size, 3, none⟩) (by go_simp)⟩); clear hk1)
    have HA1 := Lib.hid (HA0.out w1 K1.out)
    refine wp_region_steps (A := ?_) Keeps [some 16, some 17, some 18, some 19, some 20, some 21, some 22, some 23, some 24, some 25, some 26, some 27, some 28, some 29, some 30, some 31] [[], [0], [1], [2], [3], [3, 4], [3], [3], [3, 7], [3], [3, 9], [3], [3, 11], [3, 6, 8, 10, 12], [3, 5, 13], [3, 14]] 16 (by kernel_rfl) (by kernel_rfl) (by kernel_rfl) (by kernel_rfl) (by kernel_rfl) (by kernel_rfl) Keeps.refl (fun _ _ _ => Keeps.trans) ?_ ?_
    rotate_left
    · intro f; simp only [putL, Act.put, List.setIfInBounds_toArray, List.set_cons_zero, List.set_cons_succ, Nat.zero_add, Nat.reduceAdd]; exact rfl
    refine Steps.pure (v := ?_) Keeps.refl rfl (fun f w' hR hV => ⟨?_, ?_⟩) ?_
    rotate_left
    · (rfl)
    · (clear hV; obtain ⟨x0, x1, x2, x3⟩ := HB.out _ ((Keeps.refl w1).drew.trans hR); go_simp; all_goals (try with_reducible rfl))
    refine Steps.pure (v := ?_) Keeps.refl rfl (fun f w' hR hV => ⟨?_, ?_⟩) ?_
    rotate_left
    · (rfl)
    · (obtain ⟨h0, _⟩ := hV; replace h0 : f 0 = _ := h0; obtain ⟨x0, x1, x2, x3⟩ := HB.out _ ((Keeps.refl w1).drew.trans hR); go_simp; all_goals (try with_reducible rfl))
    refine Steps.pure (v := ?_) Keeps.refl rfl (fun f w' hR hV => ⟨?_, ?_⟩) ?_
    rotate_left
    · (rfl)
    · (obtain ⟨h1, _⟩ := hV; replace h1 : f 1 = _ := h1; obtain ⟨x0, x1, x2, x3⟩ := HB.out _ ((Keeps.refl w1).drew.trans hR); go_simp; all_goals (try with_reducible rfl))
    refine Steps.pure (v := ?_) Keeps.refl rfl (fun f w' hR hV => ⟨?_, ?_⟩) ?_
    rotate_left
    · (rfl)
    · (obtain ⟨h2, _⟩ := hV; replace h2 : f 2 = _ := h2; obtain ⟨x0, x1, x2, x3⟩ := HB.out _ ((Keeps.refl w1).drew.trans hR); go_simp; all_goals (try with_reducible rfl))
    all_goals first
      | (refine Steps.pure (v := ?_) Keeps.refl rfl (fun f w' hR hV => ⟨?_, ?_⟩) ?_
         rotate_left
         · (obtain ⟨h3, _⟩ := hV; replace h3 : f 3 = _ := h3; exact want_yes (t := 19) rfl (by kernel_rfl) rfl h3)
         · (obtain ⟨h3, _⟩ := hV; replace h3 : f 3 = _ := h3; obtain ⟨x0, x1, x2, x3⟩ := HB.out _ ((Keeps.refl w1).drew.trans hR); go_simp; all_goals (try with_reducible rfl)))
      | (refine Steps.skip rfl (fun f w' hR hV => ?_) ?_
         · (obtain ⟨h3, _⟩ := hV; replace h3 : f 3 = _ := h3; first | exact want_no (t := 19) rfl (by kernel_rfl) rfl h3 rfl | exact want_undef (t := 19) rfl (by kernel_rfl) rfl h3))
    all_goals first
      | (refine Steps.pure (v := ?_) Keeps.refl rfl (fun f w' hR hV => ⟨?_, ?_⟩) ?_
         rotate_left
         · (obtain ⟨h3, _, _⟩ := hV; replace h3 : f 3 = _ := h3; exact want_yes (t := 19) rfl (by kernel_rfl) rfl h3)
         · (obtain ⟨h3, h4, _⟩ := hV; replace h3 : f 3 = _ := h3; replace h4 : f 4 = _ := h4; obtain ⟨x0, x1, x2, x3⟩ := HB.out _ ((Keeps.refl w1).drew.trans hR); go_simp; all_goals (try with_reducible rfl)))
      | (refine Steps.skip rfl (fun f w' hR hV => ?_) ?_
         · (obtain ⟨h3, _, _⟩ := hV; replace h3 : f 3 = _ := h3; first | exact want_no (t := 19) rfl (by kernel_rfl) rfl h3 rfl | exact want_undef (t := 19) rfl (by kernel_rfl) rfl h3))
    all_goals first
      | (refine Steps.pure (v := ?_) Keeps.refl rfl (fun f w' hR hV => ⟨?_, ?_⟩) ?_
         rotate_left
         · (obtain ⟨h3, _⟩ := hV; replace h3 : f 3 = _ := h3; exact want_yes (t := 19) rfl (by kernel_rfl) rfl h3)
         · (obtain ⟨h3, _⟩ := hV; replace h3 : f 3 = _ := h3; obtain ⟨x0, x1, x2, x3⟩ := HB.out _ ((Keeps.refl w1).drew.trans hR); go_simp; all_goals (try with_reducible rfl)))
      | (refine Steps.skip rfl (fun f w' hR hV => ?_) ?_
         · (obtain ⟨h3, _⟩ := hV; replace h3 : f 3 = _ := h3; first | exact want_no (t := 19) rfl (by kernel_rfl) rfl h3 rfl | exact want_undef (t := 19) rfl (by kernel_rfl) rfl h3))
    all_goals first
      | (refine Steps.pure (v := ?_) Keeps.refl rfl (fun f w' hR hV => ⟨?_, ?_⟩) ?_
         rotate_left
         · (obtain ⟨h3, _⟩ := hV; replace h3 : f 3 = _ := h3; exact want_yes (t := 19) rfl (by kernel_rfl) rfl h3)
         · (obtain ⟨h3, _⟩ := hV; replace h3 : f 3 = _ := h3; obtain ⟨x0, x1, x2, x3⟩ := HB.out _ ((Keeps.refl w1).drew.trans hR); go_simp; all_goals (try with_reducible rfl)))
      | (refine Steps.skip rfl (fun f w' hR hV => ?_) ?_
         · (obtain ⟨h3, _⟩ := hV; replace h3 : f 3 = _ := h3; first | exact want_no (t := 19) rfl (by kernel_rfl) rfl h3 rfl | exact want_undef (t := 19) rfl (by kernel_rfl) rfl h3))
    all_goals first
      | (refine Steps.pure (v := ?_) Keeps.refl rfl (fun f w' hR hV => ⟨?_, ?_⟩) ?_
         rotate_left
         · (obtain ⟨h3, _, _⟩ := hV; replace h3 : f 3 = _ := h3; exact want_yes (t := 19) rfl (by kernel_rfl) rfl h3)
         · (obtain ⟨h3, h7, _⟩ := hV; replace h3 : f 3 = _ := h3; replace h7 : f 7 = _ := h7; obtain ⟨x0, x1, x2, x3⟩ := HB.out _ ((Keeps.refl w1).drew.trans hR); go_simp; all_goals (try with_reducible rfl)))
      | (refine Steps.skip rfl (fun f w' hR hV => ?_) ?_
         · (obtain ⟨h3, _, _⟩ := hV; replace h3 : f 3 = _ := h3; first | exact want_no (t := 19) rfl (by kernel_rfl) rfl h3 rfl | exact want_undef (t := 19) rfl (by kernel_rfl) rfl h3))
    all_goals first
      | (refine Steps.pure (v := ?_) Keeps.refl rfl (fun f w' hR hV => ⟨?_, ?_⟩) ?_
         rotate_left
         · (obtain ⟨h3, _⟩ := hV; replace h3 : f 3 = _ := h3; exact want_yes (t := 19) rfl (by kernel_rfl) rfl h3)
         · (obtain ⟨h3, _⟩ := hV; replace h3 : f 3 = _ := h3; obtain ⟨x0, x1, x2, x3⟩ := HB.out _ ((Keeps.refl w1).drew.trans hR); go_simp; all_goals (try with_reducible rfl)))
      | (refine Steps.skip rfl (fun f w' hR hV => ?_) ?_
         · (obtain ⟨h3, _⟩ := hV; replace h3 : f 3 = _ := h3; first | exact want_no (t := 19) rfl (by kernel_rfl) rfl h3 rfl | exact want_undef (t := 19) rfl (by kernel_rfl) rfl h3))
    all_goals first
      | (refine Steps.pure (v := ?_) Keeps.refl rfl (fun f w' hR hV => ⟨?_, ?_⟩) ?_
         rotate_left
         · (obtain ⟨h3, _, _⟩ := hV; replace h3 : f 3 = _ := h3; exact want_yes (t := 19) rfl (by kernel_rfl) rfl h3)
         · (obtain ⟨h3, h9, _⟩ := hV; replace h3 : f 3 = _ := h3; replace h9 : f 9 = _ := h9; obtain ⟨x0, x1, x2, x3⟩ := HB.out _ ((Keeps.refl w1).drew.trans hR); go_simp; all_goals (try with_reducible rfl)))
      | (refine Steps.skip rfl (fun f w' hR hV => ?_) ?_
         · (obtain ⟨h3, _, _⟩ := hV; replace h3 : f 3 = _ := h3; first | exact want_no (t := 19) rfl (by kernel_rfl) rfl h3 rfl | exact want_undef (t := 19) rfl (by kernel_rfl) rfl h3))
    all_goals first
      | (refine Steps.pure (v := ?_) Keeps.refl rfl (fun f w' hR hV => ⟨?_, ?_⟩) ?_
         rotate_left
         · (obtain ⟨h3, _⟩ := hV; replace h3 : f 3 = _ := h3; exact want_yes (t := 19) rfl (by kernel_rfl) rfl h3)
         · (obtain ⟨h3, _⟩ := hV; replace h3 : f 3 = _ := h3; obtain ⟨x0, x1, x2, x3⟩ := HB.out _ ((Keeps.refl w1).drew.trans hR); go_simp; all_goals (try with_reducible rfl)))
      | (refine Steps.skip rfl (fun f w' hR hV => ?_) ?_
         · (obtain ⟨h3, _⟩ := hV; replace h3 : f 3 = _ := h3; first | exact want_no (t := 19) rfl (by kernel_rfl) rfl h3 rfl | exact want_undef (t := 19) rfl (by kernel_rfl) rfl h3))
    all_goals first
      | (refine Steps.pure (v := ?_) Keeps.refl rfl (fun f w' hR hV => ⟨?_, ?_⟩) ?_
         rotate_left
         · (obtain ⟨h3, _, _⟩ := hV; replace h3 : f 3 = _ := h3; exact want_yes (t := 19) rfl (by kernel_rfl) rfl h3)
         · (obtain ⟨h3, h11, _⟩ := hV; replace h3 : f 3 = _ := h3; replace h11 : f 11 = _ := h11; obtain ⟨x0, x1, x2, x3⟩ := HB.out _ ((Keeps.refl w1).drew.trans hR); go_simp; all_goals (try with_reducible rfl)))
      | (refine Steps.skip rfl (fun f w' hR hV => ?_) ?_
         · (obtain ⟨h3, _, _⟩ := hV; replace h3 : f 3 = _ := h3; first | exact want_no (t := 19) rfl (by kernel_rfl) rfl h3 rfl | exact want_undef (t := 19) rfl (by kernel_rfl) rfl h3))
    all_goals first
      | (refine Steps.call (fun _ v => v = .int .i64 s) rfl (fun _ _ _ _ h => h) (fun f w' hR hV => ⟨?_, ?_⟩) ?_
         · (obtain ⟨h3, _, _, _, _, _⟩ := hV; replace h3 : f 3 = _ := h3; exact want_yes (t := 19) rfl (by kernel_rfl) rfl h3)
         · (obtain ⟨h3, h6, h8, h10, h12, _⟩ := hV; replace h3 : f 3 = _ := h3; replace h6 : f 6 = _ := h6; replace h8 : f 8 = _ := h8; replace h10 : f 10 = _ := h10; replace h12 : f 12 = _ := h12; obtain ⟨x0, x1, x2, x3⟩ := HB.out _ ((Keeps.refl w1).drew.trans hR); go_simp; go_at_call 19; refine (HA1.out _ ((Keeps.refl w1).drew.trans hR)).mono ?_; rintro e w2 ⟨rfl, hk2⟩; exact StepPost.of _ rfl rfl hk2))
      | (refine Steps.skip rfl (fun f w' hR hV => ?_) ?_
         · (obtain ⟨h3, _, _, _, _, _⟩ := hV; replace h3 : f 3 = _ := h3; first | exact want_no (t := 19) rfl (by kernel_rfl) rfl h3 rfl | exact want_undef (t := 19) rfl (by kernel_rfl) rfl h3))
    all_goals first
      | (refine Steps.pure (v := ?_) Keeps.refl rfl (fun f w' hR hV => ⟨?_, ?_⟩) ?_
         rotate_left
         · (obtain ⟨h3, _, _, _⟩ := hV; replace h3 : f 3 = _ := h3; exact want_yes (t := 19) rfl (by kernel_rfl) rfl h3)
         · (obtain ⟨h3, h5, h13, _⟩ := hV; replace h3 : f 3 = _ := h3; replace h5 : f 5 = _ := h5; replace h13 : f 13 = _ := h13; obtain ⟨x0, x1, x2, x3⟩ := HB.out _ ((Keeps.refl w1).drew.trans hR); go_simp; all_goals (try with_reducible rfl)))
      | (refine Steps.skip rfl (fun f w' hR hV => ?_) ?_
         · (obtain ⟨h3, _, _, _⟩ := hV; replace h3 : f 3 = _ := h3; first | exact want_no (t := 19) rfl (by kernel_rfl) rfl h3 rfl | exact want_undef (t := 19) rfl (by kernel_rfl) rfl h3))
    all_goals (
      refine Steps.pure (v := ?_) Keeps.refl rfl (fun f w' hR hV => ⟨?_, ?_⟩) ?_
      rotate_left
      · (rfl)
      · (obtain ⟨h3, h14, _⟩ := hV; replace h3 : f 3 = _ := h3; replace h14 : f 14 = _ := h14; obtain ⟨x0, x1, x2, x3⟩ := HB.out _ ((Keeps.refl w1).drew.trans hR); go_simp; all_goals (try with_reducible rfl)))
    all_goals (refine Steps.done [15] (by kernel_rfl) rfl (fun f wq hR hV => ?_); obtain ⟨h15, _⟩ := hV; replace h15 : f 15 = _ := h15; simp only [h15])
    have HR := Lib.hid (K1.out.trans ((Keeps.refl w1).drew.trans hR))
    clear hR
    go_wp2_with fail
    go_ret
    exact ⟨rfl, HR.out⟩
end Go.Proofs.Ytmlpdpacefnngaa
