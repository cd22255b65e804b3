/- MethodJoint: the walk of the law. -/
import Derived.Test.YtkpdimbblcmnaaaLawMAll
import Derived.Test.YtkpdimbblcmnaaaRG
import Derived.StillTailTactics
namespace Go.Proofs.Ytkpdimbblcmnaaa
open Go.RowKit
set_option linter.unusedSimpArgs false
set_option linter.unusedVariables false

theorem own_sl {w : World} {base e n g cap : Nat} {xs : List Value} (h : w.ownsRow base e 1 (.slice (some ⟨g, 0, none⟩) n cap) n xs) : Sl w 1 (some ⟨g, 0, none⟩) n cap g 0 xs := by
  obtain ⟨ao, cap', b, e, hs⟩ := Sl.own h
  simp only [Value.slice.injEq, true_and] at e
  obtain ⟨rfl, rfl⟩ := e
  refine ⟨hs.len, hs.le, hs.nocap, hs.cap, fun _ => rfl, fun j u hu => ?_⟩
  have hn : 0 < n := by
    rcases Nat.eq_zero_or_pos n with h0 | h0
    · subst h0
      have : xs = [] := List.eq_nil_of_length_eq_zero (by simpa using hs.len)
      rw [this] at hu; simp at hu
    · exact h0
  have ha := hs.addr hn
  simp only [Option.some.injEq, Addr.mk.injEq] at ha
  obtain ⟨rfl, _⟩ := ha
  exact hs.cell j u hu
theorem ones_bool (l : List Bool) : ∀ u ∈ l.map Value.bool, u.oneCell' = true := fun u hu => by
  obtain ⟨a, _, rfl⟩ := List.mem_map.1 hu
  rfl
/-- What a region that calls leaves: a list of ints. -/
def SomeSl (n : Nat) (xs : List Int) (W : World) (v : Value) : Prop := ∃ ao cap b o, v = .slice ao n cap ∧ Sl W 1 ao n cap b o (xs.map (.int .i64))
theorem SomeSl.keeps {n : Nat} {xs : List Int} {w1 w2 : World} {v : Value} (k : Keeps w1 w2) (h : SomeSl n xs w1 v) : SomeSl n xs w2 v := by
  obtain ⟨ao, cap, b, o, e, hs⟩ := h; exact ⟨ao, cap, b, o, e, hs.keeps k⟩
def SomeG (n : Nat) (js : List Bool) (W : World) (v : Value) : Prop := ∃ ao cap b o, v = .agg #[.string ⟨#[]⟩, .int .i64 0, .int .i64 0, .int .i64 0, .slice none 0 0, .int .i64 0, .int .i64 0, .int .i64 0, .int .i64 0, .int .i64 0, .int .i64 0, .int .i64 0, .int .i64 0, .int .i64 0, .int .i64 0, .int .i64 0, .int .i64 0, .int .i64 0, .int .i64 0, .int .i64 0, .slice ao n cap] ∧ Ents W ao js cap b o
theorem SomeG.keeps {n : Nat} {js : List Bool} {w1 w2 : World} {v : Value} (k : Keeps w1 w2) (h : SomeG n js w1 v) : SomeG n js w2 v := by
  obtain ⟨ao, cap, b, o, e, hs⟩ := h; exact ⟨ao, cap, b, o, e, hs.keeps k⟩
def SomeT (n : Nat) (xs : List Int) (er : Int) (W : World) (v : Value) : Prop := ∃ u, v = .tuple #[u, .int .i64 er] ∧ SomeSl n xs W u
theorem SomeT.keeps {n : Nat} {xs : List Int} {er : Int} {w1 w2 : World} {v : Value} (k : Keeps w1 w2) (h : SomeT n xs er w1 v) : SomeT n xs er w2 v := by
  obtain ⟨u, e, hs⟩ := h; exact ⟨u, e, hs.keeps k⟩
theorem meth_pair (js : List Bool) (a : Nat) (c : Bool) (l : List Hol) (d : Int) : ∃ nx rx ry re, methR js l d = (rx, re) ∧ methR (js.set a c) l d = (ry, re) ∧ rx.length = nx ∧ ry.length = nx ∧ (nx = 0 ∨ (nx = js.length ∧ rx = fnI (mthE (f0 l d) js) nx ∧ ry = fnI (mthE (f0 l d) (js.set a c)) nx)) := by
  have hl : (js.set a c).length = js.length := by simp
  rcases meth_cases js l d with ⟨_, _, _, _, h5, _, h7⟩ | ⟨re, h0, h1, _, h3⟩
  · rcases meth_cases (js.set a c) l d with ⟨_, _, _, _, _, _, g7⟩ | ⟨r2, g0, g1, _, g3⟩
    · exact ⟨js.length, _, _, 0, h7, by rw [g7, hl], fnI_len _ _, fnI_len _ _, .inr ⟨rfl, rfl, rfl⟩⟩
    · rw [hl, h5] at g1; simp at g1; exact absurd g1.2.symm g0
  · rcases meth_cases (js.set a c) l d with ⟨_, _, _, _, g5, _, _⟩ | ⟨r2, g0, g1, _, g3⟩
    · rw [hl, h1] at g5; simp at g5; exact absurd g5.2 h0
    · rw [hl, h1] at g1
      have : re = r2 := by simpa using g1
      subst this
      exact ⟨0, [], [], re, h3, g3, rfl, rfl, .inl rfl⟩
set_option maxRecDepth 100000 in
set_option maxHeartbeats 4000000 in
theorem lawMJoint_any (js : List Bool) (l : List Hol) (p0 p1 : Int) (ao : Option Addr) (cap b o : Nat) (aol : Option Addr) (capl bl ol : Nat) (w : World) (HJ : Sl w 1 ao js.length cap b o (js.map .bool)) (H : Hols w aol l capl bl ol) (hok : ∀ x ∈ l, x.Ok) :
    Calls Try.prog 4 #[.slice ao js.length cap, .slice aol l.length capl, .agg #[.int .i64 p0, .int .i64 p1]] w fun e w' => e = .returned (.bool true) ∧ Keeps w w' := by
  have hcap := HJ.cap
  have hle := HJ.le
  have hcapl := Sl.cap H
  have hlel := Sl.le H
  have HHJ := Lib.hid HJ
  have HH := Lib.hid H
  have HO := Lib.hid hok
  have H1B := Lib.hid (ones_bool js)
  clear HJ H hok
  obtain ⟨f, hfew⟩ : ∃ f, (decide (js.length ≤ 20) && decide (l.length ≤ 30)) = f := ⟨_, rfl⟩
  cases f with
  | true =>
    have hf2 := hfew
    simp only [Bool.and_eq_true, decide_eq_true_eq] at hf2
    obtain ⟨hj20, hl30⟩ := hf2
    by_cases h0 : p0 < 0
    · have e0 : decide (p0 < 0) = true := decide_eq_true h0
      go_enter Try.func4, Try.ntmps4
      go_wp2_with (first | (go_at_call 14; refine (mfew_any _ _ _ _ _ _ _ _ hfew).mono ?_; rintro e wf ⟨rfl, hwf⟩; rw [hwf]; clear hwf) | (go_at_call 13; refine (mawake_any _).mono ?_; rintro e w1 ⟨rfl, hk1⟩; have K1 := Lib.hid (((Keeps.refl w).alloc _).trans hk1); have x0 := hk1.cell (p := ⟨w.heap.size, 0, none⟩) (v := .int .i64 p0) (by go_simp); have x1 := hk1.cell (p := ⟨w.heap.size, 1, none⟩) (v := .int .i64 p1) (by go_simp); have hzx := World.block_lt_of_cell? _ _ x0; have HX0 := Lib.hid (And.intro x0 x1); clear hk1))
      go_ret
      exact ⟨rfl, K1.out⟩
    · have e0 : decide (p0 < 0) = false := decide_eq_false h0
      by_cases h1 : (js.length : Int) ≤ p0
      · have e1 : decide ((js.length : Int) ≤ p0) = true := decide_eq_true h1
        go_enter Try.func4, Try.ntmps4
        go_wp2_with (first | (go_at_call 14; refine (mfew_any _ _ _ _ _ _ _ _ hfew).mono ?_; rintro e wf ⟨rfl, hwf⟩; rw [hwf]; clear hwf) | (go_at_call 13; refine (mawake_any _).mono ?_; rintro e w1 ⟨rfl, hk1⟩; have K1 := Lib.hid (((Keeps.refl w).alloc _).trans hk1); have x0 := hk1.cell (p := ⟨w.heap.size, 0, none⟩) (v := .int .i64 p0) (by go_simp); have x1 := hk1.cell (p := ⟨w.heap.size, 1, none⟩) (v := .int .i64 p1) (by go_simp); have hzx := World.block_lt_of_cell? _ _ x0; have HX0 := Lib.hid (And.intro x0 x1); clear hk1))
        go_ret
        exact ⟨rfl, K1.out⟩
      · obtain ⟨a, rfl⟩ : ∃ a : Nat, p0 = (a : Int) := ⟨p0.toNat, by omega⟩
        have ha : a < js.length := by omega
        have e1 : decide ((js.length : Int) ≤ (a : Int)) = false := decide_eq_false h1
        clear h0 h1
        go_enter Try.func4, Try.ntmps4
        go_wp2_with (first | (at_builtin; go_loud (refine wpList_app_all elemBool rfl (.tmp 32) (.tmp 33) rfl w1 _ 0 [] rfl w1.heap.size (own_empty (Nat.le_refl _)) (by exact ((Below.refl _ w1).alloc (Nat.le_refl _) _)) (by simp) ao js.length cap b o (js.map .bool) (by rfl) (by exact (HHJ.out.keeps K1.out).keeps ((Keeps.refl w1).alloc _)) H1B.out (by omega) (by omega) ?_); intro v5 w5 hown5 hb5 hsz5; rw [Nat.zero_add, List.nil_append] at hown5; have HOWN5 := Lib.hid hown5; have hk5 : Keeps w1 w5 := hb5; have y0 := hk5.cell x0; have y1 := hk5.cell x1; have hzy := World.block_lt_of_cell? _ _ y0; have HK5 := Lib.hid hk5; obtain ⟨g, cg, rfl, hg1, hg2, hg3⟩ := own_shapeH HOWN5.out (by omega); have hs5 := (Sl.own HOWN5.out); clear hown5 hb5 hsz5 hk5 x0 x1 hzx) | (go_at_call 14; refine (mfew_any _ _ _ _ _ _ _ _ hfew).mono ?_; rintro e wf ⟨rfl, hwf⟩; rw [hwf]; clear hwf) | (go_at_call 13; refine (mawake_any _).mono ?_; rintro e w1 ⟨rfl, hk1⟩; have K1 := Lib.hid (((Keeps.refl w).alloc _).trans hk1); have x0 := hk1.cell (p := ⟨w.heap.size, 0, none⟩) (v := .int .i64 (a : Int)) (by go_simp); have x1 := hk1.cell (p := ⟨w.heap.size, 1, none⟩) (v := .int .i64 p1) (by go_simp); have hzx := World.block_lt_of_cell? _ _ x0; have HX0 := Lib.hid (And.intro x0 x1); clear hk1))
        have hg4 := HOWN5.out.cells (g := g) rfl a (.bool js[a]) (by simp [ha])
        rw [Addr.add_lit, Nat.zero_add] at hg4
        have f0' := hg3 a
        have HG1 := Lib.hid hg1
        obtain ⟨q, hq⟩ : ∃ q, js[a] = q := ⟨_, rfl⟩
        rw [hq] at hg4
        have HQ := Lib.hid hq
        clear hg3 hs5 hq
        go_wp2_with fail
        go_still_tail 10, (by kernel_rfl)
        change wpList _ _ _ _ _ w5.drew
        go_wp2_with fail
        obtain ⟨W6, hW6⟩ : ∃ W6, (w5.setCell ⟨g, a, none⟩ (.bool (!q))).drew = W6 := ⟨_, rfl⟩
        have hk6 : Keeps w1 W6 := by rw [← hW6]; exact (HK5.out.setCell (p := ⟨g, a, none⟩) HG1.out _).drew
        have hs6 : Sl W6 1 (some ⟨g, 0, none⟩) js.length cg g 0 ((js.set a (!q)).map .bool) := by
          rw [← hW6]
          have h := own_setH HOWN5.out a (.bool (!q))
          rw [← List.map_set] at h
          exact (own_sl h).keeps ((Keeps.refl _).drew)
        rw [hW6]
        have K6 := Lib.hid (K1.out.trans hk6)
        have HS6 := Lib.hid hs6
        have HD6 := Lib.hid hk6
        clear hW6 hk6 hs6 hg4 f0' hg1 hg2 y0 y1 hzy
        have hjl : (js.set a (!q)).length = js.length := by simp
        obtain ⟨nx, rx, ry, re, hr1, hr2, hn1, hn2, hn3⟩ := meth_pair js a (!q) l p1
        have HBX : Hid (∀ W, Keeps W6.drew W → W.cell? ⟨w.heap.size, 0, none⟩ = some (.int .i64 (a : Int)) ∧ W.cell? ⟨w.heap.size, 1, none⟩ = some (.int .i64 p1)) := Lib.hid (fun W hk => ⟨(HD6.out.drew.trans hk).cell HX0.out.1, (HD6.out.drew.trans hk).cell HX0.out.2⟩)
        have H7J : Hid (∀ W, Keeps W6.drew W → Calls Try.prog 15 #[.slice ao js.length cap] W fun e w' => ∃ ao cap b o, e = .returned (.agg #[.string ⟨#[]⟩, .int .i64 0, .int .i64 0, .int .i64 0, .slice none 0 0, .int .i64 0, .int .i64 0, .int .i64 0, .int .i64 0, .int .i64 0, .int .i64 0, .int .i64 0, .int .i64 0, .int .i64 0, .int .i64 0, .int .i64 0, .int .i64 0, .int .i64 0, .int .i64 0, .int .i64 0, .slice ao js.length cap]) ∧ Ents w' ao js cap b o ∧ Keeps W w') := Lib.hid (fun W hk => joint_any js ao cap b o W (HHJ.out.keeps (K6.out.drew.trans hk)) (by omega))
        have H7A : Hid (∀ W ao cap b o, Keeps W6.drew W → Ents W ao js cap b o → Calls Try.prog 16 #[.agg #[.string ⟨#[]⟩, .int .i64 0, .int .i64 0, .int .i64 0, .slice none 0 0, .int .i64 0, .int .i64 0, .int .i64 0, .int .i64 0, .int .i64 0, .int .i64 0, .int .i64 0, .int .i64 0, .int .i64 0, .int .i64 0, .int .i64 0, .int .i64 0, .int .i64 0, .int .i64 0, .int .i64 0, .slice ao js.length cap], .slice aol l.length capl, .int .i64 p1] W fun e w' => ∃ ao cap b o, e = .returned (.tuple #[.slice ao nx cap, .int .i64 re]) ∧ Sl w' 1 ao nx cap b o (rx.map (.int .i64)) ∧ Keeps W w') := Lib.hid (fun W ao cap b o hk he => by
          have := all_any js l p1 ao cap b o aol capl bl ol W he (HH.out.keeps (K6.out.drew.trans hk)) (by omega) HO.out
          rw [hr1] at this
          unfold OutL at this
          simp only [hn1] at this
          exact this)
        go_wp2_with fail
        refine wp_region_steps (A := ?_) Keeps [some 46, some 47, some 48, some 49, some 50, some 51, some 45, some 52, some 53, some 8, some 9] [[], [0], [], [], [3], [1, 2, 4], [5], [6], [6], [7], [8]] 11 (by kernel_rfl) (by kernel_rfl) (by kernel_rfl) (by kernel_rfl) (by kernel_rfl) (by kernel_rfl) Keeps.refl (fun _ _ _ => Keeps.trans) ?_ ?_
        rotate_left
        · intro f; simp only [putL, Act.put, List.setIfInBounds_toArray, List.set_cons_zero, List.set_cons_succ, Nat.zero_add, Nat.reduceAdd]; exact rfl
        refine Steps.pure (v := ?_) Keeps.refl rfl (fun f w' hR hV => ⟨?_, ?_⟩) ?_
        rotate_left
        · (rfl)
        · (clear hV; obtain ⟨y0, y1⟩ := HBX.out _ hR; go_simp; all_goals (try with_reducible rfl))
        refine Steps.call (SomeG js.length js) rfl (fun _ _ _ k h => h.keeps k) (fun f w' hR hV => ⟨?_, ?_⟩) ?_
        · (rfl)
        · (obtain ⟨h0, _⟩ := hV; replace h0 : f 0 = _ := h0; obtain ⟨y0, y1⟩ := HBX.out _ hR; go_simp; go_at_call 15; refine (H7J.out _ hR).mono ?_; rintro e w2 ⟨ao2, cap2, b2, o2, rfl, hs2, hk2⟩; exact StepPost.of _ rfl ⟨ao2, cap2, b2, o2, rfl, hs2⟩ hk2)
        refine Steps.pure (v := ?_) Keeps.refl rfl (fun f w' hR hV => ⟨?_, ?_⟩) ?_
        rotate_left
        · (rfl)
        · (clear hV; obtain ⟨y0, y1⟩ := HBX.out _ hR; go_simp; all_goals (try with_reducible rfl))
        refine Steps.pure (v := ?_) Keeps.refl rfl (fun f w' hR hV => ⟨?_, ?_⟩) ?_
        rotate_left
        · (rfl)
        · (clear hV; obtain ⟨y0, y1⟩ := HBX.out _ hR; go_simp; all_goals (try with_reducible rfl))
        refine Steps.pure (v := ?_) Keeps.refl rfl (fun f w' hR hV => ⟨?_, ?_⟩) ?_
        rotate_left
        · (rfl)
        · (obtain ⟨h3, _⟩ := hV; replace h3 : f 3 = _ := h3; obtain ⟨y0, y1⟩ := HBX.out _ hR; go_simp; all_goals (try with_reducible rfl))
        refine Steps.call (SomeT nx rx re) rfl (fun _ _ _ k h => h.keeps k) (fun f w' hR hV => ⟨?_, ?_⟩) ?_
        · (rfl)
        · (obtain ⟨h1, h2, h4, _⟩ := hV; replace h1 : SomeG js.length js w' (f 1) := h1; replace h2 : f 2 = _ := h2; replace h4 : f 4 = _ := h4; obtain ⟨y0, y1⟩ := HBX.out _ hR; go_simp; obtain ⟨ao2, cap2, b2, o2, eg, hs2⟩ := h1; simp only [eg]; go_at_call 16; refine (H7A.out _ _ _ _ _ hR hs2).mono ?_; rintro e w2 ⟨ao3, cap3, b3, o3, rfl, hs3, hk3⟩; exact StepPost.of _ rfl ⟨_, rfl, ao3, cap3, b3, o3, rfl, hs3⟩ hk3)
        refine Steps.call (SomeT nx rx re) rfl (fun _ _ _ k h => h.keeps k) (fun f w' hR hV => ⟨?_, ?_⟩) ?_
        · (rfl)
        · (obtain ⟨h5, _⟩ := hV; replace h5 : SomeT nx rx re w' (f 5) := h5; obtain ⟨y0, y1⟩ := HBX.out _ hR; go_simp; exact StepPost.of _ rfl h5 (Keeps.refl _))
        refine Steps.call (SomeSl nx rx) rfl (fun _ _ _ k h => h.keeps k) (fun f w' hR hV => ⟨?_, ?_⟩) ?_
        · (rfl)
        · (obtain ⟨h6, _⟩ := hV; replace h6 : SomeT nx rx re w' (f 6) := h6; obtain ⟨y0, y1⟩ := HBX.out _ hR; go_simp; obtain ⟨u, eu, hu⟩ := h6; simp only [eu]; go_simp; exact StepPost.of _ rfl hu (Keeps.refl _))
        refine Steps.call (fun _ v => v = .int .i64 re) rfl (fun _ _ _ _ h => h) (fun f w' hR hV => ⟨?_, ?_⟩) ?_
        · (rfl)
        · (obtain ⟨h6, _⟩ := hV; replace h6 : SomeT nx rx re w' (f 6) := h6; obtain ⟨y0, y1⟩ := HBX.out _ hR; go_simp; obtain ⟨u, eu, hu⟩ := h6; simp only [eu]; go_simp; exact StepPost.of _ rfl rfl (Keeps.refl _))
        refine Steps.call (SomeSl nx rx) rfl (fun _ _ _ k h => h.keeps k) (fun f w' hR hV => ⟨?_, ?_⟩) ?_
        · (rfl)
        · (obtain ⟨h7, _⟩ := hV; replace h7 : SomeSl nx rx w' (f 7) := h7; obtain ⟨y0, y1⟩ := HBX.out _ hR; go_simp; exact StepPost.of _ rfl h7 (Keeps.refl _))
        refine Steps.pure (v := ?_) Keeps.refl rfl (fun f w' hR hV => ⟨?_, ?_⟩) ?_
        rotate_left
        · (rfl)
        · (obtain ⟨h8, _⟩ := hV; replace h8 : f 8 = _ := h8; obtain ⟨y0, y1⟩ := HBX.out _ hR; go_simp; all_goals (try with_reducible rfl))
        all_goals (refine Steps.done [9, 10] (by kernel_rfl) rfl (fun f w' hR hV => ?_); obtain ⟨h9, h10, _⟩ := hV; replace h9 : SomeSl nx rx w' (f 9) := h9; replace h10 : f 10 = _ := h10; simp only [h10])
        obtain ⟨ao8, cap8, b8, o8, e8, hs8⟩ := h9
        simp only [e8]
        obtain ⟨W7, rfl⟩ : ∃ W7 : World, W7 = w' := ⟨_, rfl⟩
        have K7 := Lib.hid (K6.out.drew.trans hR)
        have D7 := Lib.hid (HD6.out.drew.trans hR)
        have HS7 := Lib.hid (HS6.out.keeps ((Keeps.refl W6).drew.trans hR))
        have HA8 := Lib.hid hs8
        have hc8 := hs8.cap
        have hl8 := hs8.le
        clear e8 hs8 hR HBX H7J H7A
        have HBX : Hid (∀ W, Keeps W7.drew W → W.cell? ⟨w.heap.size, 0, none⟩ = some (.int .i64 (a : Int)) ∧ W.cell? ⟨w.heap.size, 1, none⟩ = some (.int .i64 p1)) := Lib.hid (fun W hk => ⟨(D7.out.drew.trans hk).cell HX0.out.1, (D7.out.drew.trans hk).cell HX0.out.2⟩)
        have H8J : Hid (∀ W, Keeps W7.drew W → Calls Try.prog 15 #[.slice (some ⟨g, 0, none⟩) js.length cg] W fun e w' => ∃ ao cap b o, e = .returned (.agg #[.string ⟨#[]⟩, .int .i64 0, .int .i64 0, .int .i64 0, .slice none 0 0, .int .i64 0, .int .i64 0, .int .i64 0, .int .i64 0, .int .i64 0, .int .i64 0, .int .i64 0, .int .i64 0, .int .i64 0, .int .i64 0, .int .i64 0, .int .i64 0, .int .i64 0, .int .i64 0, .int .i64 0, .slice ao js.length cap]) ∧ Ents w' ao (js.set a (!q)) cap b o ∧ Keeps W w') := Lib.hid (fun W hk => by
          have := joint_any (js.set a (!q)) (some ⟨g, 0, none⟩) cg g 0 W (by rw [List.length_set]; exact HS7.out.keeps ((Keeps.refl W7).drew.trans hk)) (by rw [List.length_set]; omega)
          rw [List.length_set] at this
          exact this)
        have H8A : Hid (∀ W ao cap b o, Keeps W7.drew W → Ents W ao (js.set a (!q)) cap b o → Calls Try.prog 16 #[.agg #[.string ⟨#[]⟩, .int .i64 0, .int .i64 0, .int .i64 0, .slice none 0 0, .int .i64 0, .int .i64 0, .int .i64 0, .int .i64 0, .int .i64 0, .int .i64 0, .int .i64 0, .int .i64 0, .int .i64 0, .int .i64 0, .int .i64 0, .int .i64 0, .int .i64 0, .int .i64 0, .int .i64 0, .slice ao js.length cap], .slice aol l.length capl, .int .i64 p1] W fun e w' => ∃ ao cap b o, e = .returned (.tuple #[.slice ao nx cap, .int .i64 re]) ∧ Sl w' 1 ao nx cap b o (ry.map (.int .i64)) ∧ Keeps W w') := Lib.hid (fun W ao cap b o hk he => by
          have := all_any (js.set a (!q)) l p1 ao cap b o aol capl bl ol W he (HH.out.keeps (K7.out.drew.trans hk)) (by omega) HO.out
          rw [hr2] at this
          unfold OutL at this
          simp only [hn2, List.length_set] at this
          exact this)
        go_wp2_with fail
        refine wp_region_steps (A := ?_) Keeps [some 55, some 56, some 57, some 58, some 59, some 60, some 54, some 61, some 62, some 10, some 11] [[], [0], [], [], [3], [1, 2, 4], [5], [6], [6], [7], [8]] 11 (by kernel_rfl) (by kernel_rfl) (by kernel_rfl) (by kernel_rfl) (by kernel_rfl) (by kernel_rfl) Keeps.refl (fun _ _ _ => Keeps.trans) ?_ ?_
        rotate_left
        · intro f; simp only [putL, Act.put, List.setIfInBounds_toArray, List.set_cons_zero, List.set_cons_succ, Nat.zero_add, Nat.reduceAdd]; exact rfl
        refine Steps.pure (v := ?_) Keeps.refl rfl (fun f w' hR hV => ⟨?_, ?_⟩) ?_
        rotate_left
        · (rfl)
        · (clear hV; obtain ⟨y0, y1⟩ := HBX.out _ hR; go_simp; all_goals (try with_reducible rfl))
        refine Steps.call (SomeG js.length (js.set a (!q))) rfl (fun _ _ _ k h => h.keeps k) (fun f w' hR hV => ⟨?_, ?_⟩) ?_
        · (rfl)
        · (obtain ⟨h0, _⟩ := hV; replace h0 : f 0 = _ := h0; obtain ⟨y0, y1⟩ := HBX.out _ hR; go_simp; go_at_call 15; refine (H8J.out _ hR).mono ?_; rintro e w2 ⟨ao2, cap2, b2, o2, rfl, hs2, hk2⟩; exact StepPost.of _ rfl ⟨ao2, cap2, b2, o2, rfl, hs2⟩ hk2)
        refine Steps.pure (v := ?_) Keeps.refl rfl (fun f w' hR hV => ⟨?_, ?_⟩) ?_
        rotate_left
        · (rfl)
        · (clear hV; obtain ⟨y0, y1⟩ := HBX.out _ hR; go_simp; all_goals (try with_reducible rfl))
        refine Steps.pure (v := ?_) Keeps.refl rfl (fun f w' hR hV => ⟨?_, ?_⟩) ?_
        rotate_left
        · (rfl)
        · (clear hV; obtain ⟨y0, y1⟩ := HBX.out _ hR; go_simp; all_goals (try with_reducible rfl))
        refine Steps.pure (v := ?_) Keeps.refl rfl (fun f w' hR hV => ⟨?_, ?_⟩) ?_
        rotate_left
        · (rfl)
        · (obtain ⟨h3, _⟩ := hV; replace h3 : f 3 = _ := h3; obtain ⟨y0, y1⟩ := HBX.out _ hR; go_simp; all_goals (try with_reducible rfl))
        refine Steps.call (SomeT nx ry re) rfl (fun _ _ _ k h => h.keeps k) (fun f w' hR hV => ⟨?_, ?_⟩) ?_
        · (rfl)
        · (obtain ⟨h1, h2, h4, _⟩ := hV; replace h1 : SomeG js.length (js.set a (!q)) w' (f 1) := h1; replace h2 : f 2 = _ := h2; replace h4 : f 4 = _ := h4; obtain ⟨y0, y1⟩ := HBX.out _ hR; go_simp; obtain ⟨ao2, cap2, b2, o2, eg, hs2⟩ := h1; simp only [eg]; go_at_call 16; refine (H8A.out _ _ _ _ _ hR hs2).mono ?_; rintro e w2 ⟨ao3, cap3, b3, o3, rfl, hs3, hk3⟩; exact StepPost.of _ rfl ⟨_, rfl, ao3, cap3, b3, o3, rfl, hs3⟩ hk3)
        refine Steps.call (SomeT nx ry re) rfl (fun _ _ _ k h => h.keeps k) (fun f w' hR hV => ⟨?_, ?_⟩) ?_
        · (rfl)
        · (obtain ⟨h5, _⟩ := hV; replace h5 : SomeT nx ry re w' (f 5) := h5; obtain ⟨y0, y1⟩ := HBX.out _ hR; go_simp; exact StepPost.of _ rfl h5 (Keeps.refl _))
        refine Steps.call (SomeSl nx ry) rfl (fun _ _ _ k h => h.keeps k) (fun f w' hR hV => ⟨?_, ?_⟩) ?_
        · (rfl)
        · (obtain ⟨h6, _⟩ := hV; replace h6 : SomeT nx ry re w' (f 6) := h6; obtain ⟨y0, y1⟩ := HBX.out _ hR; go_simp; obtain ⟨u, eu, hu⟩ := h6; simp only [eu]; go_simp; exact StepPost.of _ rfl hu (Keeps.refl _))
        refine Steps.call (fun _ v => v = .int .i64 re) rfl (fun _ _ _ _ h => h) (fun f w' hR hV => ⟨?_, ?_⟩) ?_
        · (rfl)
        · (obtain ⟨h6, _⟩ := hV; replace h6 : SomeT nx ry re w' (f 6) := h6; obtain ⟨y0, y1⟩ := HBX.out _ hR; go_simp; obtain ⟨u, eu, hu⟩ := h6; simp only [eu]; go_simp; exact StepPost.of _ rfl rfl (Keeps.refl _))
        refine Steps.call (SomeSl nx ry) rfl (fun _ _ _ k h => h.keeps k) (fun f w' hR hV => ⟨?_, ?_⟩) ?_
        · (rfl)
        · (obtain ⟨h7, _⟩ := hV; replace h7 : SomeSl nx ry w' (f 7) := h7; obtain ⟨y0, y1⟩ := HBX.out _ hR; go_simp; exact StepPost.of _ rfl h7 (Keeps.refl _))
        refine Steps.pure (v := ?_) Keeps.refl rfl (fun f w' hR hV => ⟨?_, ?_⟩) ?_
        rotate_left
        · (rfl)
        · (obtain ⟨h8, _⟩ := hV; replace h8 : f 8 = _ := h8; obtain ⟨y0, y1⟩ := HBX.out _ hR; go_simp; all_goals (try with_reducible rfl))
        all_goals (refine Steps.done [9, 10] (by kernel_rfl) rfl (fun f w' hR hV => ?_); obtain ⟨h9, h10, _⟩ := hV; replace h9 : SomeSl nx ry w' (f 9) := h9; replace h10 : f 10 = _ := h10; simp only [h10])
        obtain ⟨ao9, cap9, b9, o9, e9, hs9⟩ := h9
        simp only [e9]
        obtain ⟨W8, rfl⟩ : ∃ W8 : World, W8 = w' := ⟨_, rfl⟩
        have K8 := Lib.hid (K7.out.drew.trans hR)
        have HX8 := Lib.hid (And.intro ((D7.out.drew.trans hR).cell HX0.out.1) ((D7.out.drew.trans hR).cell HX0.out.2))
        have HA9 := Lib.hid (HA8.out.keeps ((Keeps.refl W7).drew.trans hR))
        have HB9 := Lib.hid hs9
        have hc9 := hs9.cap
        have hl9 := hs9.le
        have HN3 := Lib.hid hn3
        have HQ2 := Lib.hid HQ.out
        clear e9 hs9 hR HBX H8J H8A hr1 hr2 hn1 hn2 hn3
        go_wp2_with fail
        go_loopw [12] (fun vi wy => ∃ k r : Nat, k ≤ nx ∧ vi = .int .i64 k ∧ wy = W8.drewN r) (fun vi _ => nx - (intOf vi).toNat)
        case atStart => exact ⟨0, 0, Nat.zero_le _, rfl, rfl⟩
        case round =>
          obtain ⟨k, r, hk, rfl, rfl⟩ := hrel
          by_cases hlk : k < nx
          · obtain ⟨rfl, rfl, rfl⟩ : nx = js.length ∧ rx = fnI (mthE (f0 l p1) js) nx ∧ ry = fnI (mthE (f0 l p1) (js.set a (!q))) nx := by
              rcases HN3.out with h | h
              · omega
              · exact h
            have c1 := fnI_cell HA9.out k hlk
            have hix1 := HA9.out.at1 Try.underlying35 Try.sizeOf3 k hlk
            have c2 := fnI_cell HB9.out k hlk
            have hix2 := HB9.out.at1 Try.underlying35 Try.sizeOf3 k hlk
            have x0 : W8.cell? ⟨w.heap.size, 0, none⟩ = some (.int .i64 (a : Int)) := HX8.out.1
            have hrg := mthE_rng (f0 l p1) js k
            by_cases hka : k = a
            · subst hka
              have ho := mthE_own (f := f0 l p1) hlk
              rw [HQ2.out] at ho
              rcases ho with ⟨h1, h2⟩ | ⟨h1, h2⟩ | ⟨h1, h2, h3⟩
              · rw [h1] at c1
                rw [h2] at c2
                clear h1 h2 hrg
                go_wp2_with fail
                go_roundw
                case rel => exact ⟨k + 1, _, by omega, by go_num, rfl⟩
                case measure => simp [intOf]; omega
              · rw [h1] at c1
                rw [h2] at c2
                clear h1 h2 hrg
                go_wp2_with fail
                go_roundw
                case rel => exact ⟨k + 1, _, by omega, by go_num, rfl⟩
                case measure => simp [intOf]; omega
              · rw [h1] at c2
                obtain ⟨x, hx⟩ : ∃ x, mthE (f0 l p1) js k = x := ⟨_, rfl⟩
                rw [hx] at c1 c2 h2 h3 hrg
                clear h1 hx
                obtain ⟨r0, r3⟩ := hrg
                have hx4 : x = 0 ∨ x = 3 := by omega
                rcases hx4 with rfl | rfl
                · clear h2 h3 r0 r3
                  go_wp2_with fail
                  go_quiet (fail)
                  go_wp2_with fail
                  go_roundw
                  case rel => exact ⟨k + 1, _, by omega, by go_num, by first | rfl | exact World.drewN_drewN _ _ _⟩
                  case measure => simp [intOf]; omega
                · clear h2 h3 r0 r3
                  go_wp2_with fail
                  go_quiet (fail)
                  go_wp2_with fail
                  go_roundw
                  case rel => exact ⟨k + 1, _, by omega, by go_num, by first | rfl | exact World.drewN_drewN _ _ _⟩
                  case measure => simp [intOf]; omega
            · have hne : ((k : Int) == (a : Int)) = false := by simp; omega
              rw [mthE_other hka] at c2
              obtain ⟨x, hx⟩ : ∃ x, mthE (f0 l p1) js k = x := ⟨_, rfl⟩
              rw [hx] at c1 c2 hrg
              clear hx hka
              obtain ⟨r0, r3⟩ := hrg
              have hx4 : x = 0 ∨ x = 1 ∨ x = 2 ∨ x = 3 := by omega
              rcases hx4 with rfl | rfl | rfl | rfl
              · clear r0 r3
                go_wp2_with fail
                go_quiet (fail)
                go_wp2_with fail
                go_roundw
                case rel => exact ⟨k + 1, _, by omega, by go_num, by first | rfl | exact World.drewN_drewN _ _ _⟩
                case measure => simp [intOf]; omega
              · clear r0 r3
                go_wp2_with fail
                go_quiet (fail)
                go_wp2_with fail
                go_roundw
                case rel => exact ⟨k + 1, _, by omega, by go_num, by first | rfl | exact World.drewN_drewN _ _ _⟩
                case measure => simp [intOf]; omega
              · clear r0 r3
                go_wp2_with fail
                go_quiet (fail)
                go_wp2_with fail
                go_roundw
                case rel => exact ⟨k + 1, _, by omega, by go_num, by first | rfl | exact World.drewN_drewN _ _ _⟩
                case measure => simp [intOf]; omega
              · clear r0 r3
                go_wp2_with fail
                go_quiet (fail)
                go_wp2_with fail
                go_roundw
                case rel => exact ⟨k + 1, _, by omega, by go_num, by first | rfl | exact World.drewN_drewN _ _ _⟩
                case measure => simp [intOf]; omega
          · go_wp2_with fail
            go_ret
            exact ⟨rfl, K8.out.drewN r⟩
  | false =>
    go_enter Try.func4, Try.ntmps4
    go_wp2_with (first | (go_at_call 14; refine (mfew_any _ _ _ _ _ _ _ _ hfew).mono ?_; rintro e wf ⟨rfl, hwf⟩; rw [hwf]; clear hwf) | (go_at_call 13; refine (mawake_any _).mono ?_; rintro e w1 ⟨rfl, hk1⟩; have K1 := Lib.hid (((Keeps.refl w).alloc _).trans hk1); have x0 := hk1.cell (p := ⟨w.heap.size, 0, none⟩) (v := .int .i64 p0) (by go_simp); have x1 := hk1.cell (p := ⟨w.heap.size, 1, none⟩) (v := .int .i64 p1) (by go_simp); have hzx := World.block_lt_of_cell? _ _ x0; have HX0 := Lib.hid (And.intro x0 x1); clear hk1))
    go_ret
    exact ⟨rfl, K1.out⟩
end Go.Proofs.Ytkpdimbblcmnaaa
