/- scope.Current: the walks. -/
import Derived.Test.YtkpdimbblcmnaaaScopeW
import Derived.Test.YtkpdimbblcmnaaaKMet
import Derived.Test.YtkpdimbblcmnaaaMetJ
namespace Go.Proofs.Ytkpdimbblcmnaaa
open Go.RowKit
set_option linter.unusedSimpArgs false
set_option linter.unusedVariables false

def inI (d : Int) (x : Ivl) : Bool := decide (x.frm ≤ d) && decide (d < x.to)
theorem curI_hit {l : List Ivl} {d : Int} (hd : dateB d = true) {k : Nat} (hk : k < l.length) (h : ∀ j (hj : j < l.length), j < k → inI d l[j] = false) (hx : inI d l[k] = true) : curI l d = some l[k] := by
  unfold curI
  rw [if_pos hd]
  refine List.find?_eq_some_iff_getElem.2 ⟨hx, k, hk, rfl, fun j hj => ?_⟩
  have := h j (by omega) hj
  unfold inI at this
  rw [this]; rfl
theorem curI_miss {l : List Ivl} {d : Int} (h : dateB d = true → ∀ j (hj : j < l.length), inI d l[j] = false) : curI l d = none := by
  unfold curI
  by_cases hd : dateB d = true
  · rw [if_pos hd]
    refine List.find?_eq_none.2 fun x hx => ?_
    obtain ⟨j, hj, rfl⟩ := List.getElem_of_mem hx
    have := h hd j hj
    unfold inI at this
    simp [this]
  · rw [if_neg hd]
def Ivl.val (x : Ivl) : Value := .agg #[.int .i64 x.frm, .int .i64 x.to, .int .i64 x.mth]
theorem ivlSize : (Try.prog.info? 57).map (·.size) = some 3 := by kernel_rfl
theorem results_row_tmp {P : Program} {fn : Func} {p u : Tmp} {ty : TypeId} (h : fn.results = #[.cell p ty, .tmp u]) (tmps : Array Value) (w : World) (g : Nat) (cs : List Value) (d : TypeDesc)
    (hp : tmps.getD p undef = .pointer (some ⟨g, 0, none⟩)) (hc : w.rangeAt g 0 cs) (hu : P.underlying ty = some d) (hd : d.isRow = true) (hi : (P.info? ty).map (·.size) = some cs.length) :
    (results fn tmps).run P w = .ok (.tuple #[.agg cs.toArray, tmps.getD u undef]) w := by
  have hp' : tmps[p]?.getD undef = .pointer (some ⟨g, 0, none⟩) := by simpa using hp
  simp [results, h, hp', asAddr, run_loadVar_mid w g 0 ty cs d hc hu hd hi, Sem.run_bind, Result.andThen]
/-- The box of a result holds an interval. -/
def IvX (W : World) (B : Nat) (x : Ivl) : Prop := RowB W B 57 x.cells
theorem IvX.set {W : World} {B : Nat} {x : Ivl} (h : IvX W B x) (y : Ivl) : IvX (((W.setCell ⟨B, 0, none⟩ (.int .i64 y.frm)).setCell ⟨B, 1, none⟩ (.int .i64 y.to)).setCell ⟨B, 2, none⟩ (.int .i64 y.mth)) B y := ((RowB.set h 0 _).set 1 _).set 2 _
theorem keeps_row3 {a : World} {W : World} {B : Nat} (h : Keeps a W) (hB : a.heap.size ≤ B) (u v y : Value) : Keeps a (((W.setCell ⟨B, 0, none⟩ u).setCell ⟨B, 1, none⟩ v).setCell ⟨B, 2, none⟩ y) :=
  ((h.setCell (p := ⟨B, 0, none⟩) hB _).setCell (p := ⟨B, 1, none⟩) hB _).setCell (p := ⟨B, 2, none⟩) hB _
theorem cur_1 {r : List Ivl × Int} {d : Int} (h : r.2 ≠ 0) : curR r d = (⟨0, 0, 0⟩, r.2) := by unfold curR; rw [if_neg h]
theorem cur_2 {l : List Ivl} {d : Int} (h : curI l d = none) : curR (l, 0) d = (⟨0, 0, 0⟩, 2) := by unfold curR; rw [if_pos rfl, h]
theorem cur_3 {l : List Ivl} {d : Int} {x : Ivl} (h : curI l d = some x) : curR (l, 0) d = (x, 0) := by unfold curR; rw [if_pos rfl, h]
set_option maxRecDepth 100000 in
set_option maxHeartbeats 4000000 in
theorem cur_any (js : List Bool) (l : List Hol) (xs : List Int) (hxs : IsDates l xs) (en day : Int) (ao : Option Addr) (cap b o : Nat) (aol : Option Addr) (capl bl ol : Nat) (w : World) (HJ : Ents w ao js cap b o) (H : Hols w aol l capl bl ol) (hlen : l.length ≤ 900) (hok : ∀ x ∈ l, x.Ok) :
    Calls Try.prog 31 #[.agg #[.string ⟨#[]⟩, .int .i64 0, .int .i64 0, .int .i64 0, .slice none 0 0, .int .i64 0, .int .i64 0, .int .i64 0, .int .i64 0, .int .i64 0, .int .i64 0, .int .i64 0, .int .i64 0, .int .i64 0, .int .i64 0, .int .i64 0, .int .i64 0, .int .i64 0, .int .i64 0, .int .i64 0, .slice ao js.length cap], .slice aol l.length capl, .int .i64 en, .int .i64 day] w fun e w' => e = .returned (.tuple #[(curR (ivR js l xs en) day).1.val, .int .i64 (curR (ivR js l xs en) day).2]) ∧ Keeps w w' := by
  have hall := fun W (hk : Keeps w W) => ivals_any js l xs hxs en ao cap b o aol capl bl ol W (HJ.keeps hk) (H.keeps hk) hlen hok
  have hcap := Sl.cap HJ
  have hle := Sl.le HJ
  have hload := (((RowB.new w 33 (grpC (.slice ao js.length cap))).alloc (.cells #[.int .i64 0, .int .i64 0, .int .i64 0] 57))).range
  obtain ⟨⟨rl, re⟩, hr⟩ : ∃ r, ivR js l xs en = r := ⟨_, rfl⟩
  rw [hr] at hall ⊢
  have HI : Hid (∀ W, Keeps w W → Calls Try.prog 23 #[.agg #[.string ⟨#[]⟩, .int .i64 0, .int .i64 0, .int .i64 0, .slice none 0 0, .int .i64 0, .int .i64 0, .int .i64 0, .int .i64 0, .int .i64 0, .int .i64 0, .int .i64 0, .int .i64 0, .int .i64 0, .int .i64 0, .int .i64 0, .int .i64 0, .int .i64 0, .int .i64 0, .int .i64 0, .slice ao js.length cap], .slice aol l.length capl, .int .i64 en] W fun e w' => ∃ ao cap b o, e = .returned (.tuple #[.slice ao rl.length cap, .int .i64 re]) ∧ Ivls w' ao rl cap b o ∧ Keeps W w') := Lib.hid hall
  clear hall hr HJ H
  by_cases h0 : re = 0
  · subst h0
    obtain ⟨vd, hvd⟩ : ∃ vd, dateB day = vd := ⟨_, rfl⟩
    have HD : Hid (∀ W, Calls Try.prog 43 #[.int .i64 day] W fun e w' => e = .returned (.bool vd) ∧ W = w') := Lib.hid (fun W => by have := hdate_any day W; rw [hvd] at this; exact this)
    have HVD := Lib.hid hvd
    clear hvd
    go_enter Try.func31, Try.ntmps31
    go_wp2_with (first | (refine wpList_load_mid rfl 33 _ rfl w.heap.size 0 rfl (grpC (.slice ao js.length cap)) _ hload Try.underlying33 rfl groupSize ?_) | (go_at_call 23; (refine (HI.out _ (((Keeps.refl w).alloc _).alloc _)).mono ?_); rintro e w2 ⟨ao2, cap2, b2, o2, rfl, hs2, hk2⟩; have K2 := Lib.hid hk2; have HS2 := Lib.hid hs2; have hc2 := Sl.cap hs2; have hl2 := Sl.le hs2; have hx2 : IvX w2 (w.heap.size + 1) ⟨0, 0, 0⟩ := RowB.keeps (by have := RowB.new (w.alloc (.cells (grpC (.slice ao js.length cap)).toArray 33)) 57 (Ivl.cells ⟨0, 0, 0⟩); rw [World.size_alloc] at this; exact this) hk2; have HX2 := Lib.hid hx2; have x0 := RowB.cell hx2 0 _ rfl; have x1 := RowB.cell hx2 1 _ rfl; have x2 := RowB.cell hx2 2 _ rfl; have y0 := RowB.frozen hx2 0; have y1 := RowB.frozen hx2 1; have y2 := RowB.frozen hx2 2; have z0 := RowB.lt hx2; clear hs2 hk2 hx2))
    go_loopw [27] (fun vi wr => ∃ k : Nat, k ≤ rl.length ∧ vi = .int .i64 k ∧ Hid (Keeps w2 wr ∧ ∀ j (hj : j < rl.length), j < k → dateB day = true → inI day rl[j] = false)) (fun vi _ => rl.length - (intOf vi).toNat)
    case atStart => exact ⟨0, Nat.zero_le _, rfl, Lib.hid ⟨Keeps.refl _, fun j _ hj => absurd hj (Nat.not_lt_zero _)⟩⟩
    case round =>
      obtain ⟨k, hk, rfl, HX⟩ := hrel
      by_cases hlt : k < rl.length
      · have HSk := HS2.out.keeps HX.out.1
        have c0 := HSk.cell Ivl.len k hlt 0 _ rfl
        have c1 := HSk.cell Ivl.len k hlt 1 _ rfl
        have c2 := HSk.cell Ivl.len k hlt 2 _ rfl
        have hix := Sl.at HSk Try.underlying47 Try.sizeOf57 k hlt
        simp only [Nat.add_zero] at c0
        have hlb := World.block_lt_of_cell? _ _ c0
        have x0' := HX.out.1.cell x0
        have x1' := HX.out.1.cell x1
        have x2' := HX.out.1.cell x2
        have y0' := HX.out.1.frz x0 y0
        have y1' := HX.out.1.frz x1 y1
        have y2' := HX.out.1.frz x2 y2
        have z0' := Nat.lt_of_lt_of_le z0 HX.out.1.size
        obtain ⟨z, hz⟩ : ∃ z, rl[k] = z := ⟨_, rfl⟩
        have HZ := Lib.hid hz
        rw [hz] at c0 c1 c2
        clear hz HSk
        cases vd with
        | false =>
          have HN : Hid (∀ j (hj : j < rl.length), j < k + 1 → dateB day = true → inI day rl[j] = false) := Lib.hid (fun j hj _ h => by rw [HVD.out] at h; cases h)
          go_wp2_with (go_at_call 43; refine (HD.out _).mono ?_; rintro e w5 ⟨rfl, rfl⟩)
          go_roundw
          case rel => exact ⟨k + 1, by omega, by go_num, Lib.hid ⟨HX.out.1.alloc _, HN.out⟩⟩
          case measure => simp [intOf]; omega
        | true =>
          by_cases h1 : z.frm ≤ day
          · have h1' : decide (z.frm ≤ day) = true := decide_eq_true h1
            by_cases h2 : day < z.to
            · have h2' : decide (day < z.to) = true := decide_eq_true h2
              have HC : Hid (curI rl day = some z) := Lib.hid (by
                have := curI_hit HVD.out hlt (fun j hj hjk => HX.out.2 j hj hjk HVD.out) (by rw [HZ.out]; simp [inI, h1, h2])
                rw [HZ.out] at this; exact this)
              go_wp2_with (go_at_call 43; refine (HD.out _).mono ?_; rintro e w5 ⟨rfl, rfl⟩)
              refine bodyPost_ret (results_row_tmp rfl _ _ (w.heap.size + 1) z.cells _ rfl (RowB.range ((IvX.set (RowB.keeps HX2.out HX.out.1) z).alloc _)) Try.underlying57 rfl ivlSize) rfl ?_
              rw [cur_3 HC.out]
              exact ⟨rfl, (keeps_row3 ((((Keeps.refl w).alloc _).alloc _).trans (K2.out.trans HX.out.1)) (Nat.le_succ _) _ _ _).alloc _⟩
            · have h2' : decide (day < z.to) = false := decide_eq_false h2
              have HN : Hid (∀ j (hj : j < rl.length), j < k + 1 → dateB day = true → inI day rl[j] = false) := Lib.hid (fun j hj hjk h => by
                by_cases e : j = k
                · subst e; rw [HZ.out]; simp [inI, h2]
                · exact HX.out.2 j hj (by omega) h)
              go_wp2_with (go_at_call 43; refine (HD.out _).mono ?_; rintro e w5 ⟨rfl, rfl⟩)
              go_roundw
              case rel => exact ⟨k + 1, by omega, by go_num, Lib.hid ⟨HX.out.1.alloc _, HN.out⟩⟩
              case measure => simp [intOf]; omega
          · have h1' : decide (z.frm ≤ day) = false := decide_eq_false h1
            have HN : Hid (∀ j (hj : j < rl.length), j < k + 1 → dateB day = true → inI day rl[j] = false) := Lib.hid (fun j hj hjk h => by
              by_cases e : j = k
              · subst e; rw [HZ.out]; simp [inI, h1]
              · exact HX.out.2 j hj (by omega) h)
            go_wp2_with (go_at_call 43; refine (HD.out _).mono ?_; rintro e w5 ⟨rfl, rfl⟩)
            go_roundw
            case rel => exact ⟨k + 1, by omega, by go_num, Lib.hid ⟨HX.out.1.alloc _, HN.out⟩⟩
            case measure => simp [intOf]; omega
      · obtain rfl : k = rl.length := by omega
        have HC := Lib.hid (cur_2 (curI_miss (l := rl) (d := day) fun h j hj => HX.out.2 j hj hj h))
        have x0' := HX.out.1.cell x0
        have x1' := HX.out.1.cell x1
        have x2' := HX.out.1.cell x2
        have y0' := HX.out.1.frz x0 y0
        have y1' := HX.out.1.frz x1 y1
        have y2' := HX.out.1.frz x2 y2
        go_wp2_with fail
        refine bodyPost_ret (results_row_tmp rfl _ _ (w.heap.size + 1) (Ivl.cells ⟨0, 0, 0⟩) _ rfl (RowB.range (IvX.set (RowB.keeps HX2.out HX.out.1) ⟨0, 0, 0⟩)) Try.underlying57 rfl ivlSize) rfl ?_
        rw [HC.out]
        exact ⟨rfl, keeps_row3 ((((Keeps.refl w).alloc _).alloc _).trans (K2.out.trans HX.out.1)) (Nat.le_succ _) _ _ _⟩
  · have HQ := Lib.hid (cur_1 (r := (rl, re)) (d := day) h0)
    have e3 : (!(re == 0)) = true := by simpa using h0
    go_enter Try.func31, Try.ntmps31
    go_wp2_with (first | (refine wpList_load_mid rfl 33 _ rfl w.heap.size 0 rfl (grpC (.slice ao js.length cap)) _ hload Try.underlying33 rfl groupSize ?_) | (go_at_call 23; (refine (HI.out _ (((Keeps.refl w).alloc _).alloc _)).mono ?_); rintro e w2 ⟨ao2, cap2, b2, o2, rfl, hs2, hk2⟩; have K2 := Lib.hid hk2; have HS2 := Lib.hid hs2; have hc2 := Sl.cap hs2; have hl2 := Sl.le hs2; have hx2 : IvX w2 (w.heap.size + 1) ⟨0, 0, 0⟩ := RowB.keeps (by have := RowB.new (w.alloc (.cells (grpC (.slice ao js.length cap)).toArray 33)) 57 (Ivl.cells ⟨0, 0, 0⟩); rw [World.size_alloc] at this; exact this) hk2; have HX2 := Lib.hid hx2; have x0 := RowB.cell hx2 0 _ rfl; have x1 := RowB.cell hx2 1 _ rfl; have x2 := RowB.cell hx2 2 _ rfl; have y0 := RowB.frozen hx2 0; have y1 := RowB.frozen hx2 1; have y2 := RowB.frozen hx2 2; have z0 := RowB.lt hx2; clear hs2 hk2 hx2))
    refine bodyPost_ret (results_row_tmp rfl _ _ (w.heap.size + 1) (Ivl.cells ⟨0, 0, 0⟩) _ rfl (RowB.range (IvX.set HX2.out ⟨0, 0, 0⟩)) Try.underlying57 rfl ivlSize) rfl ?_
    rw [HQ.out]
    exact ⟨rfl, keeps_row3 ((((Keeps.refl w).alloc _).alloc _).trans K2.out) (Nat.le_succ _) _ _ _⟩
end Go.Proofs.Ytkpdimbblcmnaaa
