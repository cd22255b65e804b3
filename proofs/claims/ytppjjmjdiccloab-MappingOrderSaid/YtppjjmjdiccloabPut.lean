/- The reference's put: the walk. -/
import Derived.Test.YtppjjmjdiccloabBalW
import Derived.Test.YtppjjmjdiccloabApp2
import Derived.Deep.RegionLaw
namespace Go.Proofs.Ytppjjmjdiccloab
open Go.RowKit
set_option linter.unusedSimpArgs false
set_option linter.unusedVariables false

theorem own_base {W : World} {base base' : Nat} {e : TypeId} {size : Nat} {v : Value} {k : Nat} {xs : List Value} (h : W.ownsRow base e size v k xs) (hb : base' ≤ base) : W.ownsRow base' e size v k xs := by
  refine ⟨h.1, ?_⟩
  rcases h.2 with hn | ⟨g, cap, cur, hv, hbg, rest⟩
  · exact .inl hn
  · exact .inr ⟨g, cap, cur, hv, Nat.le_trans hb hbg, rest⟩
theorem own_keeps {w w' : World} {base e size n : Nat} {v : Value} {xs : List Value} (h : w.ownsRow base e size v n xs) (hk : Keeps w w') : w'.ownsRow base e size v n xs := by
  refine ⟨h.1, ?_⟩
  rcases h.2 with hn | ⟨g, cap, cur, hv, hbg, hg, rest⟩
  · exact .inl hn
  · exact .inr ⟨g, cap, cur, hv, hbg, (hk.block g (Array.getElem?_eq_some_iff.1 hg).1).trans hg, rest⟩
/-- A store into a slice that the call owns. -/
theorem own_set {w : World} {base e size n g cap : Nat} {xs : List Value} (h : w.ownsRow base e size (.slice (some ⟨g, 0, none⟩) n cap) n xs) (j : Nat) (u : Value) :
    (w.setCell ⟨g, j, none⟩ u).ownsRow base e size (.slice (some ⟨g, 0, none⟩) n cap) n (xs.set j u) := by
  obtain ⟨hl, h2⟩ := h
  rcases h2 with ⟨he, _⟩ | ⟨g', cap', cur, he, hb, hg, h1, h3, hs, ht⟩
  · cases he
  · simp only [Value.slice.injEq, Option.some.injEq, Addr.mk.injEq] at he
    obtain ⟨⟨rfl, _⟩, _, rfl⟩ := he
    refine ⟨by simpa using hl, .inr ⟨g, cap, cur.setIfInBounds j u, rfl, hb, ?_, h1, h3, by simpa using hs, ?_⟩⟩
    · show (w.heap.modify g _)[g]? = _
      rw [Array.getElem?_modify, if_pos rfl, hg]
      rfl
    · rw [Array.toList_setIfInBounds, List.take_set, ht]
theorem own_shape {w : World} {base e size n : Nat} {v : Value} {xs : List Value} (h : w.ownsRow base e size v n xs) (hn : 0 < n) : ∃ g cap, v = .slice (some ⟨g, 0, none⟩) n cap ∧ base ≤ g ∧ g < w.heap.size ∧ ∀ j, w.frozen? ⟨g, j, none⟩ = false := by
  rcases h.2 with ⟨_, h0⟩ | ⟨g, cap, cur, he, hb, hg, _⟩
  · omega
  · exact ⟨g, cap, he, hb, (Array.getElem?_eq_some_iff.1 hg).1, fun j => by simp [World.frozen?, hg]⟩

theorem elemBal : ElemOf Try.prog 41 65 (.agg #[.int .i64 0, .int .i64 0]) 2 16 := ⟨Try.underlying41, by kernel_rfl, rfl, by omega⟩
theorem flat_set (l : List Bal) (k : Nat) (hk : k < l.length) (acc n : Int) (he : l[k].acc = acc) : (l.set k ⟨acc, n⟩).flatMap Bal.cells = (l.flatMap Bal.cells).set (k * 2 + 1) (.int .i64 n) := by
  induction l generalizing k with
  | nil => exact absurd hk (Nat.not_lt_zero _)
  | cons x l ih =>
    cases k with
    | zero => simp only [List.getElem_cons_zero] at he; subst he; rfl
    | succ k =>
      rw [List.set_cons_succ, List.flatMap_cons, List.flatMap_cons, ih k (by simpa using hk) (by simpa using he)]
      rw [List.set_append_right _ _ (by simp [Bal.cells]; omega)]
      have : (k + 1) * 2 + 1 - x.cells.length = k * 2 + 1 := by simp [Bal.cells]; omega
      rw [this]
theorem flat_take {α : Type} {enc : α → List Value} {sz : Nat} (he : ∀ a, (enc a).length = sz) (l : List α) (k : Nat) : (l.take k).flatMap enc = (l.flatMap enc).take (k * sz) := by
  induction l generalizing k with
  | nil => simp
  | cons x l ih =>
    cases k with
    | zero => simp
    | succ k => rw [List.take_succ_cons, List.flatMap_cons, List.flatMap_cons, ih, List.take_append, he, List.take_of_length_le (l := enc x) (by rw [he, Nat.add_mul]; omega), show (k + 1) * sz - sz = k * sz from by rw [Nat.add_mul]; omega]
theorem flat_drop {α : Type} {enc : α → List Value} {sz : Nat} (he : ∀ a, (enc a).length = sz) (l : List α) (k : Nat) : (l.drop k).flatMap enc = (l.flatMap enc).drop (k * sz) := by
  induction l generalizing k with
  | nil => simp
  | cons x l ih =>
    cases k with
    | zero => simp
    | succ k =>
      have hx : (enc x).drop ((k + 1) * sz) = [] := List.drop_eq_nil_of_le (by rw [he, Nat.add_mul]; omega)
      rw [List.drop_succ_cons, List.flatMap_cons, ih, List.drop_append, he, hx, List.nil_append, show (k + 1) * sz - sz = k * sz from by rw [Nat.add_mul]; omega]
def PutOut (base : Nat) (w0 : World) (l : List Bal) (e : Ending) (w' : World) : Prop := ∃ v', e = .returned v' ∧ w'.ownsRow base 65 2 v' l.length (l.flatMap Bal.cells) ∧ Below base w0 w' ∧ base ≤ w'.heap.size

set_option maxRecDepth 100000 in
set_option maxHeartbeats 1000000 in
theorem put_any (l : List Bal) (acc n : Int) (v : Value) (base : Nat) (w0 w : World) (hown : w.ownsRow base 65 2 v l.length (l.flatMap Bal.cells)) (hb : Below base w0 w) (hbase : base ≤ w.heap.size) (hlen : l.length ≤ 1000)
    (hbd : ∀ x ∈ l, -1000000000000000 ≤ x.amount ∧ x.amount ≤ 1000000000000000) (hn : -1000000000000 ≤ n ∧ n ≤ 1000000000000) (ha : AscB l) :
    Calls Try.prog 36 #[v, .int .i64 acc, .int .i64 n] w (PutOut base w0 (putS l acc n)) := by
  obtain ⟨ao, cap, b, hv, hs⟩ := Recs.own hown
  subst hv
  have HOW := Lib.hid hown
  have HS := Lib.hid hs
  have HB := Lib.hid hb
  have HBD := Lib.hid hbd
  have HA := Lib.hid ha
  have hcap := Sl.cap hs
  have hle := Sl.le hs
  clear hown hs hb hbd ha
  go_enter Try.func36, Try.ntmps36
  go_wp2_with fail
  go_loop [7] (fun vi => ∃ k : Nat, k ≤ l.length ∧ vi = .int .i64 k ∧ Hid (∀ j (hj : j < l.length), j < k → l[j].acc < acc)) (fun vi => l.length - (intOf vi).toNat)
  case atStart => exact ⟨0, Nat.zero_le _, rfl, Lib.hid (fun j _ h => absurd h (Nat.not_lt_zero _))⟩
  case round =>
    obtain ⟨k, hk, rfl, HN⟩ := hrel
    by_cases hlt : k < l.length
    · have hix := Sl.at HS.out Try.underlying41 Try.sizeOf65 k hlt
      have c0 := HS.out.cell Bal.len k hlt 0 _ rfl
      have c1 := HS.out.cell Bal.len k hlt 1 _ rfl
      simp only [Nat.add_zero, Nat.zero_add] at c0 c1 hix
      by_cases he : l[k].acc = acc
      · have hP := Lib.hid (putS_hit (n := n) hlt HN.out he)
        obtain ⟨g, cap', hsh, hg1, hg2, hfr⟩ := own_shape HOW.out (by omega)
        simp only [Value.slice.injEq] at hsh
        obtain ⟨rfl, _, rfl⟩ := hsh
        have hab := (Sl.addr HS.out (by omega))
        simp only [Option.some.injEq, Addr.mk.injEq] at hab
        obtain ⟨rfl, _⟩ := hab
        have f1 := hfr (k * 2 + 1)
        have hbk := HBD.out _ (List.getElem_mem hlt)
        have e1 : (l[k].acc == acc) = true := by simpa using he
        have HST := Lib.hid (own_set HOW.out (k * 2 + 1) (.int .i64 (l[k].amount + n)))
        have HFL := Lib.hid (flat_set l k hlt acc (l[k].amount + n) he)
        clear hfr he
        go_wp2
        go_ret
        refine ⟨_, rfl, ?_, HB.out.setCell hg1 _, by simpa [World.setCell] using hbase⟩
        rw [hP.out, HFL.out, List.length_set]
        exact HST.out
      · have e1 : (l[k].acc == acc) = false := by simpa using he
        by_cases h2 : acc < l[k].acc
        · have hP := Lib.hid (putS_new (n := n) hk HN.out (fun _ => h2))
          go_wp2
          obtain ⟨ao5, hcf, hs5⟩ := Sl.cutFrom HS.out Try.underlying41 Try.sizeOf65 k hk
          have hct := run_cutTo Try.underlying41 Try.sizeOf65 ao l.length cap k (by omega) hcap
          have HS5 := Lib.hid hs5
          have HS1 := Lib.hid (Sl.take HS.out k hk)
          have hone : ∀ u ∈ l.flatMap Bal.cells, u.oneCell' = true := fun u hu => by
            obtain ⟨a, _, hu⟩ := List.mem_flatMap.1 hu
            simp [Bal.cells] at hu
            rcases hu with rfl | rfl <;> rfl
          have HO1 : Hid (∀ u ∈ (l.flatMap Bal.cells).take (k * 2), u.oneCell' = true) := Lib.hid (fun u hu => hone u (List.mem_of_mem_take hu))
          have HO2 : Hid (∀ u ∈ (l.flatMap Bal.cells).drop (k * 2), u.oneCell' = true) := Lib.hid (fun u hu => hone u (List.mem_of_mem_drop hu))
          clear hs5 c0 c1 hix hone he
          go_region_law (first | (refine step_all_raw elemBal (by rfl) (.tmp 40) (.tmp 43) (by rfl) _ 0 [] (by rfl) w.heap.size (by first | exact own_emptyx (by simp) (by simp) | exact (own_emptyx (by simp) (by simp)).alloc _) (by first | (simp; done) | (simp; omega)) ao k cap b 0 ((l.flatMap Bal.cells).take (k * 2)) (by rfl) (by first | exact HS1.out.keeps ((Keeps.refl w).alloc _).drew | exact HS1.out.keeps (((Keeps.refl w).alloc _).alloc _).drew) HO1.out (by omega) (by omega) ?_; intro v1 w1 hown1 hgrow1 hat1; rw [Nat.zero_add, List.nil_append] at hown1; have hk1 : Keeps w w1 := (by first | exact Below.grown ((Keeps.refl w).alloc _).drew hgrow1 (by first | (simp; done) | (simp; omega)) (fun j hj => by simp [Act.eval, Value.ownBlock] at hj; omega) | exact Below.grown (((Keeps.refl w).alloc _).alloc _).drew hgrow1 (by first | (simp; done) | (simp; omega)) (fun j hj => by simp [Act.eval, Value.ownBlock] at hj; omega)); have hz1 := hk1.size) | (refine step_all_raw elemBal (by rfl) (.tmp 44) (.tmp 48) (by rfl) v1 k _ (by rfl) w.heap.size (by first | exact hown1 | exact hown1.alloc _) (by first | omega | (simp; omega)) _ 1 1 _ 0 [.int .i64 acc, .int .i64 n] (by rfl) (by first | exact Sl.block rfl (fun j u hj => by rcases j with _ | _ | j <;> simp at hj <;> subst hj <;> first | (exact hgrow1.cell (by go_simp) (by simp [Act.eval, Value.ownBlock])) | go_simp)) (by intro u hu; simp at hu; rcases hu with rfl | rfl <;> rfl) (by omega) (by omega) ?_; intro v2 w2 hown2 hgrow2 hat2; have hk2 : Keeps w w2 := (by first | exact Below.grown hk1 hgrow2 hk1.size (fun j hj => (hown1.lt j hj).1) | exact Below.grown (Keeps.alloc hk1 _) hgrow2 (by simp; omega) (fun j hj => (hown1.lt j hj).1)); have hz2 := hk2.size) | (refine step_all_raw elemBal (by rfl) (.tmp 49) (.tmp 52) (by rfl) v2 (k + 1) _ (by rfl) w.heap.size hown2 hz2 ao5 (l.length - k) (cap - k) b (0 + k * 2) ((l.flatMap Bal.cells).drop (k * 2)) (by rfl) (HS5.out.keeps hk2) HO2.out (by omega) (by omega) ?_; intro v3 w3 hown3 hgrow3 hat3; have hk3 : Keeps w w3 := Below.grown hk2 hgrow3 hk2.size (fun j hj => (hown2.lt j hj).1)))
          all_goals
            have HR : Hid (w3.ownsRow base 65 2 v3 (putS l acc n).length ((putS l acc n).flatMap Bal.cells)) := Lib.hid (by
              have h := own_base hown3 hbase
              rw [show k + 1 + (l.length - k) = l.length + 1 from by omega] at h
              have e1 : (putS l acc n).length = l.length + 1 := by
                rw [hP.out, List.length_append, List.length_append, List.length_take, List.length_drop, List.length_singleton]; omega
              have e2 : (putS l acc n).flatMap Bal.cells = (l.flatMap Bal.cells).take (k * 2) ++ [.int .i64 acc, .int .i64 n] ++ (l.flatMap Bal.cells).drop (k * 2) := by
                rw [hP.out, List.flatMap_append, List.flatMap_append, flat_take Bal.len, flat_drop Bal.len]
                rfl
              rw [e1, e2]; exact h)
            have HKK := Lib.hid hk3
            clear hown1 hgrow1 hat1 hk1 hz1 hown2 hgrow2 hat2 hk2 hz2 hown3 hgrow3 hat3 hk3
            go_wp2
            go_ret
            exact ⟨_, rfl, HR.out, HB.out.trans (HKK.out.mono hbase), by have := HKK.out.size; omega⟩
        · have HN2 : Hid (∀ j (hj : j < l.length), j < k + 1 → l[j].acc < acc) := Lib.hid (fun j hj h => by
            rcases Nat.lt_succ_iff_lt_or_eq.1 h with h | rfl
            · exact HN.out j hj h
            · omega)
          clear he
          go_wp2
          go_round
          case rel => exact ⟨k + 1, by omega, by go_num, HN2⟩
          case measure => simp [intOf]; omega
    · obtain rfl : k = l.length := by omega
      have hP := Lib.hid (putS_new (n := n) (Nat.le_refl _) HN.out (fun h => absurd h (Nat.lt_irrefl _)))
      go_wp2_with (at_builtin; refine wpList_appx elemBal rfl _ _ rfl w0 _ _ _ rfl base HOW.out HB.out hbase [.int .i64 acc, .int .i64 n] _ 1 rfl (by simp) rfl (by intro u hu; simp at hu; rcases hu with rfl | rfl <;> rfl) (by omega) (by omega) ?_; intro v3 w3 hown3 hb3 hsz3)
      go_ret
      refine ⟨_, rfl, ?_, hb3, hsz3⟩
      rw [hP.out, List.take_length, List.drop_length, List.append_nil, List.length_append, List.flatMap_append]
      exact hown3
end Go.Proofs.Ytppjjmjdiccloab
