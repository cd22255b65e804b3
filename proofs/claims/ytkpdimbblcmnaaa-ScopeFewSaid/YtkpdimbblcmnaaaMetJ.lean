/- The reference's Joint: a group with a number of entities: the walk. -/
import Derived.Test.YtkpdimbblcmnaaaMetW
import Derived.Deep.RegionLaw
namespace Go.Proofs.Ytkpdimbblcmnaaa
open Go.RowKit
set_option linter.unusedSimpArgs false
set_option linter.unusedVariables false

theorem elemEnt : ElemOf Try.prog 31 66 (.agg #[.string ⟨#[]⟩, .string ⟨#[]⟩, .slice none 0 0, .slice none 0 0, .bool false]) 5 88 := ⟨Try.underlying31, by kernel_rfl, rfl, by omega⟩
theorem grpC_one (ao : Option Addr) (n c : Nat) : (grpC (.slice ao n c)).toArray.all (·.oneCell') = true := all_oneCell_toArray (by
  intro v hv
  simp only [grpC, List.mem_cons, List.not_mem_nil, or_false] at hv
  repeat (rcases hv with rfl | hv; · rfl)
  try (subst hv; rfl))
theorem results_cell_mid {P : Program} {fn : Func} {p : Tmp} {ty : TypeId} (h : fn.results = #[.cell p ty]) (tmps : Array Value) (w : World) (g : Nat) (cs : List Value) (d : TypeDesc)
    (hp : tmps.getD p undef = .pointer (some ⟨g, 0, none⟩)) (hc : w.rangeAt g 0 cs) (hu : P.underlying ty = some d) (hd : d.isRow = true) (hi : (P.info? ty).map (·.size) = some cs.length) :
    (results fn tmps).run P w = .ok (.agg cs.toArray) w := by
  have hp' : tmps[p]?.getD undef = .pointer (some ⟨g, 0, none⟩) := by simpa using hp
  simp [results, h, hp', asAddr, run_loadVar_mid w g 0 ty cs d hc hu hd hi]
theorem keeps_setCells {a : World} {B : Nat} (hB : a.heap.size ≤ B) : ∀ (vs : List Value) (o : Nat) (b : World), Keeps a b → Keeps a (b.setCells B o vs)
  | [], _, _, h => h
  | v :: vs, o, b, h => keeps_setCells hB vs (o + 1) _ (h.setCell (p := ⟨B, o, none⟩) hB v)
theorem ents_setCells {w : World} {ao : Option Addr} {js : List Bool} {cap b o B : Nat} (h : Ents w ao js cap b o) (hb : js.length ≠ 0 → b ≠ B) (vs : List Value) (p : Nat) : Ents (w.setCells B p vs) ao js cap b o :=
  ⟨h.len, h.le, h.nocap, h.cap, h.addr, fun j u hu => by
    have hne : js.length ≠ 0 := fun e0 => by
      rw [List.eq_nil_of_length_eq_zero e0] at hu; simp at hu
    rw [World.cell?_setCells_out B vs p w ⟨b, o + j, none⟩ (fun e => absurd e (hb hne))]
    exact Sl.cell h j u hu⟩
theorem own_other {w : World} {base e size n : Nat} {v : Value} {xs : List Value} (h : w.ownsRow base e size v n xs) {p : Addr} (hp : p.block < base) (u : Value) : (w.setCell p u).ownsRow base e size v n xs := by
  refine ⟨h.1, ?_⟩
  rcases h.2 with hn | ⟨g, cap, cur, hv, hbg, hg, rest⟩
  · exact .inl hn
  · exact .inr ⟨g, cap, cur, hv, hbg, (Below.heap_setCell w p u g (by omega)).trans hg, rest⟩
/-- How the group lies. -/
def JB (w W : World) (js : List Bool) (k : Nat) : Prop := ∃ v, RowB W (w.heap.size + 1) 33 (grpC v) ∧ W.ownsRow (w.heap.size + 2) 66 5 v k ((js.take k).flatMap entC) ∧ Keeps w W ∧ RowB W w.heap.size 33 (grpC (.slice none 0 0)) ∧ w.heap.size + 2 ≤ W.heap.size
set_option maxRecDepth 100000 in
set_option maxHeartbeats 4000000 in
theorem joint_any (js : List Bool) (ao : Option Addr) (cap b o : Nat) (w : World) (H : Sl w 1 ao js.length cap b o (js.map .bool)) (hlen : js.length ≤ 1000) :
    Calls Try.prog 15 #[.slice ao js.length cap] w fun e w' => ∃ ao cap b o, e = .returned (.agg #[.string ⟨#[]⟩, .int .i64 0, .int .i64 0, .int .i64 0, .slice none 0 0, .int .i64 0, .int .i64 0, .int .i64 0, .int .i64 0, .int .i64 0, .int .i64 0, .int .i64 0, .int .i64 0, .int .i64 0, .int .i64 0, .int .i64 0, .int .i64 0, .int .i64 0, .int .i64 0, .int .i64 0, .slice ao js.length cap]) ∧ Ents w' ao js cap b o ∧ Keeps w w' := by
  have hcap := Sl.cap H
  have hle := Sl.le H
  have HH := Lib.hid H
  clear H
  go_enter Try.func15, Try.ntmps15
  go_wp2_with fail
  have HR0 : Hid (JB w ((w.alloc (.cells #[.string ⟨#[]⟩, .int .i64 0, .int .i64 0, .int .i64 0, .slice none 0 0, .int .i64 0, .int .i64 0, .int .i64 0, .int .i64 0, .int .i64 0, .int .i64 0, .int .i64 0, .int .i64 0, .int .i64 0, .int .i64 0, .int .i64 0, .int .i64 0, .int .i64 0, .int .i64 0, .int .i64 0, .slice none 0 0] 33)).alloc (.cells #[.string ⟨#[]⟩, .int .i64 0, .int .i64 0, .int .i64 0, .slice none 0 0, .int .i64 0, .int .i64 0, .int .i64 0, .int .i64 0, .int .i64 0, .int .i64 0, .int .i64 0, .int .i64 0, .int .i64 0, .int .i64 0, .int .i64 0, .int .i64 0, .int .i64 0, .int .i64 0, .int .i64 0, .slice none 0 0] 33)) js 0) := Lib.hid ⟨_, by have := RowB.new (w.alloc (.cells #[.string ⟨#[]⟩, .int .i64 0, .int .i64 0, .int .i64 0, .slice none 0 0, .int .i64 0, .int .i64 0, .int .i64 0, .int .i64 0, .int .i64 0, .int .i64 0, .int .i64 0, .int .i64 0, .int .i64 0, .int .i64 0, .int .i64 0, .int .i64 0, .int .i64 0, .int .i64 0, .int .i64 0, .slice none 0 0] 33)) 33 (grpC (.slice none 0 0)); rw [show (w.alloc (.cells #[.string ⟨#[]⟩, .int .i64 0, .int .i64 0, .int .i64 0, .slice none 0 0, .int .i64 0, .int .i64 0, .int .i64 0, .int .i64 0, .int .i64 0, .int .i64 0, .int .i64 0, .int .i64 0, .int .i64 0, .int .i64 0, .int .i64 0, .int .i64 0, .int .i64 0, .int .i64 0, .int .i64 0, .slice none 0 0] 33)).heap.size = w.heap.size + 1 from by simp] at this; exact this, World.ownsRow_nil _ _ _ _, ((Keeps.refl w).alloc _).alloc _, (RowB.new w 33 (grpC (.slice none 0 0))).alloc _, by simp⟩
  go_loopw [4] (fun vi wy => ∃ k : Nat, k ≤ js.length ∧ vi = .int .i64 k ∧ Hid (JB w wy js k)) (fun vi _ => js.length - (intOf vi).toNat)
  case atStart => exact ⟨0, Nat.zero_le _, rfl, HR0⟩
  case round =>
    obtain ⟨k, hk, rfl, HX⟩ := hrel
    obtain ⟨v, hrow, hown, hkw, hrow0, hsz⟩ := HX.out
    by_cases hlt : k < js.length
    · have c20 := hrow.cell 20 v rfl
      have f20 := hrow.frozen 20
      have hb20 := hrow.lt
      have hs := HH.out.keeps hkw
      have cj := hs.cell k (.bool js[k]) (by simp [hlt])
      have hix := hs.at1 Try.underlying22 Try.sizeOf4 k hlt
      have hbj := World.block_lt_of_cell? _ _ cj
      have HOWN := Lib.hid hown
      have HROW := Lib.hid (And.intro hrow hrow0)
      have HK := Lib.hid hkw
      have HT : Hid (js.take (k + 1) = js.take k ++ [js[k]]) := Lib.hid (take_snoc js k hlt)
      obtain ⟨q, hq⟩ : ∃ q, js[k] = q := ⟨_, rfl⟩
      rw [hq] at cj HT
      clear hrow hown hkw hrow0 hs hq HX
      go_wp2_with fail
      go_region_law ((refine step_all_raw elemEnt (by rfl) (.tmp 12) (.tmp 18) (by rfl) v k _ (by rfl) (w.heap.size + 2) (by first | exact HOWN.out.alloc _ | exact HOWN.out) (by first | omega | (simp; omega)) _ 1 1 _ 0 (entC q) (by rfl) (by exact Sl.block rfl (fun j u hj => by rcases j with _ | _ | _ | _ | _ | j <;> simp [entC] at hj <;> subst hj <;> go_simp)) (by intro u hu; simp [entC] at hu; rcases hu with rfl | rfl | rfl <;> rfl) (by omega) (by omega) ?_; intro v5 w5 hown5 hgrow5 hat5; obtain ⟨ao5, cap5, b5, rfl, hs5⟩ := Sl.own hown5; clear hs5; have HROW5 := Lib.hid hown5; have HG5 := Lib.hid hgrow5; have hr5 : RowB w5 (w.heap.size + 1) 33 (grpC v) := RowB.kept (W := (wr.alloc (.cells #[.string ⟨#[]⟩, .string ⟨#[]⟩, .slice none 0 0, .slice none 0 0, .bool q] 66)).drew) (HROW.out.1.alloc _) HG5.out (fun e => Nat.not_succ_le_self _ ((HOWN.out.lt (w.heap.size + 1) e.symm).1)); have hr6 : RowB w5 w.heap.size 33 (grpC (.slice none 0 0)) := RowB.kept (W := (wr.alloc (.cells #[.string ⟨#[]⟩, .string ⟨#[]⟩, .slice none 0 0, .slice none 0 0, .bool q] 66)).drew) (HROW.out.2.alloc _) HG5.out (fun e => Nat.lt_irrefl _ (Nat.lt_of_lt_of_le (Nat.lt_succ_of_lt (Nat.lt_succ_self _)) ((HOWN.out.lt w.heap.size e.symm).1))); have d20 := hr5.cell 20 v rfl; have d20f := hr5.frozen 20; have hbd := hr5.lt; have HRR := Lib.hid (And.intro hr5 hr6); clear hown5 hgrow5 hat5 hr5 hr6))
      all_goals
        have HT2 : Hid (JB w (w5.setCell ⟨w.heap.size + 1, 20, none⟩ (.slice ao5 (k + 1) cap5)) js (k + 1)) := Lib.hid ⟨_, HRR.out.1.set 20 (.slice ao5 (k + 1) cap5), own_other (by rw [HT.out, List.flatMap_append]; exact HROW5.out) (Nat.lt_succ_self _) _, (show Keeps w w5 from Below.grown (HK.out.alloc _).drew HG5.out (HK.out.alloc _).drew.size (fun j hj => by have := (HOWN.out.lt j hj).1; omega)).setCell (p := ⟨w.heap.size + 1, 20, none⟩) (Nat.le_succ _) _, HRR.out.2.other (by simp) _, by have h1 := HG5.out.size; simp [World.setCell] at h1 ⊢; omega⟩
        clear d20 d20f hbd HROW5 HG5 HRR
        go_wp2_with fail
        go_roundw
        case rel => exact ⟨k + 1, by omega, by go_num, HT2⟩
        case measure => simp [intOf]; omega
    · obtain rfl : k = js.length := by omega
      rw [List.take_length] at hown
      obtain ⟨ao7, cap7, b7, rfl, hs7⟩ := Recs.own hown
      have HE := Lib.hid hs7
      have HB7 : Hid (js.length ≠ 0 → b7 ≠ w.heap.size) := Lib.hid (fun hne e => by
        have ha := Sl.addr hs7 (by omega)
        subst ha
        have := (hown.lt b7 rfl).1
        omega)
      have hrg := hrow.range
      have HROW0 := Lib.hid hrow0
      have HK := Lib.hid hkw
      have hth : wr.there w.heap.size 0 21 := fun j hj => by
        rw [Nat.zero_add]
        have hl : (grpC (.slice none 0 0)).length = 21 := rfl
        exact ⟨by rw [HROW0.out.cell j _ (List.getElem?_eq_getElem (by omega))]; rfl, HROW0.out.frozen j⟩
      clear hrow hown hkw hrow0 hs7 HX
      go_wp2_with (first | (refine wpList_load_mid rfl 33 _ rfl (w.heap.size + 1) 0 rfl (grpC (.slice ao7 js.length cap7)) _ hrg Try.underlying33 rfl groupSize ?_) | (refine wpList_store_mid rfl 33 _ _ rfl w.heap.size 0 (grpC (.slice ao7 js.length cap7)).toArray rfl rfl hth groupSize (grpC_one _ _ _) ?_))
      refine bodyPost_ret (results_cell_mid rfl _ _ w.heap.size (grpC (.slice ao7 js.length cap7)) _ rfl (World.rangeAt_setCells_same _ _ _ _ hth) Try.underlying33 rfl groupSize) rfl ?_
      exact ⟨ao7, cap7, b7, 0, rfl, ents_setCells HE.out HB7.out _ _, keeps_setCells (Nat.le_refl _) _ _ _ HK.out⟩
end Go.Proofs.Ytkpdimbblcmnaaa
