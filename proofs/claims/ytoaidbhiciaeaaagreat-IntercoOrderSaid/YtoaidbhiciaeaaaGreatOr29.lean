/- Walks and plain facts that the claim rests on (SortEl, EliS, IcoL, IcA). No condition. -/
import Derived.Shelf.SlGeneric
import Derived.Shelf.SlSortCmp.WholeK
import Derived.Shelf.SlSortCmp.NoneTotal
import Derived.Ground.SlsfProg
import Derived.Test.YtoaidbhiciaeaaaGreatProg
import Derived.Test.YtoaidbhiciaeaaaGreatOr24
import Derived.Test.YtoaidbhiciaeaaaGreatOr25
import Derived.Test.YtoaidbhiciaeaaaGreatOr28
import Derived.Test.YtoaidbhiciaeaaaGreatOr26
section
namespace Go.Proofs
open Go.Shelf
def Tryz.sortEl_ren : Go.Shelf.Ren := ⟨fun | 6 => 44 | 15 => 79 | 14 => 78 | 28 => 126 | 29 => 127 | 20 => 118 | 21 => 119 | 22 => 120 | 23 => 121 | 24 => 122 | 25 => 123 | 26 => 124 | 27 => 125 | 46 => 153 | 47 => 154 | 48 => 155 | 49 => 156 | 50 => 157 | 57 => 179 | n => n, fun | 22 => 80 | 24 => 83 | 25 => 115 | 3 => 3 | 39 => 147 | 0 => 0 | 53 => 189 | 55 => 191 | 4 => 4 | 46 => 183 | 45 => 182 | 50 => 149 | 5 => 5 | 9 => 9 | 66 => 211 | 70 => 215 | 76 => 230 | 77 => 88 | n => n, fun | n => n⟩
theorem Tryz.sortEl : Go.Proofs.SlLaysF0.n6 Tryz.prog Tryz.sortEl_ren := {
  mixed := by kernel_rfl
  f6 := ⟨Tryz.f44.name, by decide, Tryz.func44.trans (congrArg some (by kernel_rfl))⟩
  f14 := ⟨Tryz.f78.name, by decide, Tryz.func78.trans (congrArg some (by kernel_rfl))⟩
  f15 := Tryz.func79.trans (congrArg some (by kernel_rfl))
  f20 := ⟨Tryz.f118.name, by decide, Tryz.func118.trans (congrArg some (by kernel_rfl))⟩
  f21 := ⟨Tryz.f119.name, by decide, Tryz.func119.trans (congrArg some (by kernel_rfl))⟩
  f22 := ⟨Tryz.f120.name, by decide, Tryz.func120.trans (congrArg some (by kernel_rfl))⟩
  f23 := ⟨Tryz.f121.name, by decide, Tryz.func121.trans (congrArg some (by kernel_rfl))⟩
  f24 := ⟨Tryz.f122.name, by decide, Tryz.func122.trans (congrArg some (by kernel_rfl))⟩
  f25 := ⟨Tryz.f123.name, by decide, Tryz.func123.trans (congrArg some (by kernel_rfl))⟩
  f26 := ⟨Tryz.f124.name, by decide, Tryz.func124.trans (congrArg some (by kernel_rfl))⟩
  f27 := ⟨Tryz.f125.name, by decide, Tryz.func125.trans (congrArg some (by kernel_rfl))⟩
  f28 := Tryz.func126.trans (congrArg some (by kernel_rfl))
  f29 := Tryz.func127.trans (congrArg some (by kernel_rfl))
  f46 := ⟨Tryz.f153.name, by decide, Tryz.func153.trans (congrArg some (by kernel_rfl))⟩
  f47 := Tryz.func154.trans (congrArg some (by kernel_rfl))
  f48 := Tryz.func155.trans (congrArg some (by kernel_rfl))
  f49 := ⟨Tryz.f156.name, by decide, Tryz.func156.trans (congrArg some (by kernel_rfl))⟩
  f50 := ⟨Tryz.f157.name, by decide, Tryz.func157.trans (congrArg some (by kernel_rfl))⟩
  f57 := ⟨Tryz.f179.name, by decide, Tryz.func179.trans (congrArg some (by kernel_rfl))⟩
  t0 := Tryz.underlying0
  a0 := Tryz.isAgg0
  z0 := Tryz.sizeOf0
  v0 := Tryz.zeroValue0
  t3 := Tryz.underlying3
  a3 := Tryz.isAgg3
  z3 := Tryz.sizeOf3
  v3 := Tryz.zeroValue3
  t4 := Tryz.underlying4
  a4 := Tryz.isAgg4
  z4 := Tryz.sizeOf4
  v4 := Tryz.zeroValue4
  t5 := Tryz.underlying5
  a5 := Tryz.isAgg5
  z5 := Tryz.sizeOf5
  v5 := Tryz.zeroValue5
  t9 := Tryz.underlying9
  a9 := Tryz.isAgg9
  z9 := Tryz.sizeOf9
  v9 := Tryz.zeroValue9
  t22 := Tryz.underlying80
  a22 := Tryz.isAgg80
  z22 := Tryz.sizeOf80
  v22 := Tryz.zeroValue80
  t25 := Tryz.underlying115
  a25 := Tryz.isAgg115
  z25 := Tryz.sizeOf115
  v25 := Tryz.zeroValue115
  t39 := Tryz.underlying147
  a39 := Tryz.isAgg147
  z39 := Tryz.sizeOf147
  v39 := Tryz.zeroValue147
  t45 := Tryz.underlying182
  a45 := Tryz.isAgg182
  z45 := Tryz.sizeOf182
  v45 := Tryz.zeroValue182
  t46 := Tryz.underlying183
  a46 := Tryz.isAgg183
  z46 := Tryz.sizeOf183
  v46 := Tryz.zeroValue183
  t50 := Tryz.underlying149
  a50 := Tryz.isAgg149
  z50 := Tryz.sizeOf149
  v50 := Tryz.zeroValue149
  t53 := Tryz.underlying189
  a53 := Tryz.isAgg189
  z53 := Tryz.sizeOf189
  v53 := Tryz.zeroValue189
  t55 := Tryz.underlying191
  a55 := Tryz.isAgg191
  z55 := Tryz.sizeOf191
  v55 := Tryz.zeroValue191
  t66 := Tryz.underlying211
  a66 := Tryz.isAgg211
  z66 := Tryz.sizeOf211
  v66 := Tryz.zeroValue211
  t70 := Tryz.underlying215
  a70 := Tryz.isAgg215
  z70 := Tryz.sizeOf215
  v70 := Tryz.zeroValue215
  t76 := Tryz.underlying230
  a76 := Tryz.isAgg230
  z76 := Tryz.sizeOf230
  v76 := Tryz.zeroValue230
  t77 := Tryz.underlying88
  a77 := Tryz.isAgg88
  z77 := Tryz.sizeOf88
  v77 := Tryz.zeroValue88 }
end Go.Proofs

end
section
namespace Go.Proofs.YtoaidbhiciaeaaaGreat
open Go.RowKit Go.Shelf Go.Lib Go.Sort Go.Maps
set_option linter.unusedSimpArgs false
set_option linter.unusedVariables false
structure EV where
  x : Eli
  a : Option Addr
  c : Nat
  b : Nat
instance : Inhabited EV := ⟨⟨⟨0, 0, []⟩, none, 0, 0⟩⟩
def EV.cells (e : EV) : List Value := [.int .i64 e.x.id, .int .i64 e.x.left, .slice e.a e.x.own.length e.c]
theorem EV.len (e : EV) : e.cells.length = 3 := rfl
theorem EV.one (e : EV) : ∀ v ∈ e.cells, v.oneCell' = true := by
  intro v hv
  simp only [EV.cells, List.mem_cons, List.not_mem_nil, or_false] at hv
  rcases hv with rfl | rfl | rfl <;> rfl
def eliD : NestD EV Itm := ⟨7, Itm.cells, fun e => e.x.own, EV.a, EV.c, EV.b⟩
def cmpI (x y : Int) : Int := if x < y then -1 else if y < x then 1 else 0
theorem cmpI_neg {x y : Int} : cmpI x y < 0 ↔ x < y := by unfold cmpI; split <;> (try split) <;> omega
def cfE (x y : EV) : Int := cmpI x.x.id y.x.id
theorem isnan_any (x : Int) (w : World) : Calls Tryz.prog 80 #[.int .i64 x] w fun e w' => e = .returned (.bool false) ∧ w = w' := by
  have h : (x != x) = false := by simp
  go_enter Tryz.func80, Tryz.ntmps80
  go_wp2
  go_ret
  exact ⟨rfl, rfl⟩
theorem compare_any (x y : Int) (w : World) : Calls Tryz.prog 46 #[.int .i64 x, .int .i64 y] w fun e w' => e = .returned (.int .i64 (cmpI x y)) ∧ w = w' := by
  by_cases h1 : x < y
  · go_enter Tryz.func46, Tryz.ntmps46
    go_wp2_with (go_at_call 80; refine (isnan_any _ _).mono ?_; rintro e w' ⟨rfl, rfl⟩)
    go_ret
    exact ⟨ret1 (by rw [cmpI, if_pos h1]), rfl⟩
  · by_cases h2 : y < x
    · go_enter Tryz.func46, Tryz.ntmps46
      go_wp2_with (go_at_call 80; refine (isnan_any _ _).mono ?_; rintro e w' ⟨rfl, rfl⟩)
      go_ret
      exact ⟨ret1 (by rw [cmpI, if_neg (by omega), if_pos h2]), rfl⟩
    · go_enter Tryz.func46, Tryz.ntmps46
      go_wp2_with (go_at_call 80; refine (isnan_any _ _).mono ?_; rintro e w' ⟨rfl, rfl⟩)
      go_ret
      exact ⟨ret1 (by rw [cmpI, if_neg (by omega), if_neg (by omega)]), rfl⟩
def GrownR (a b : World) : Prop := ∃ q os, b = Go.Sort.grow (a.drewN q) os
theorem GrownR.refl (a : World) : GrownR a a := ⟨0, #[], by rw [Go.Sort.grow_empty]; rfl⟩
theorem GrownR.drew (a : World) : GrownR a a.drew := ⟨1, #[], by rw [Go.Sort.grow_empty]; rfl⟩
theorem GrownR.alloc (a : World) (o : Obj) : GrownR a (a.alloc o) := ⟨0, #[o], by simp only [Go.Sort.grow, Array.append_singleton]; rfl⟩
theorem GrownR.trans {a b c : World} (h : GrownR a b) (k : GrownR b c) : GrownR a c := by
  obtain ⟨q, os, rfl⟩ := h
  obtain ⟨q2, os2, rfl⟩ := k
  refine ⟨q + q2, os ++ os2, ?_⟩
  rw [← Go.Sort.grow_grow]
  simp [Go.Sort.grow, World.drewN, Nat.add_assoc]
set_option maxHeartbeats 1000000 in
theorem eliCmp_any (x y : EV) (w : World) :
    Calls Tryz.prog 45 #[.agg #[.int .i64 x.x.id, .int .i64 x.x.left, .slice x.a x.x.own.length x.c], .agg #[.int .i64 y.x.id, .int .i64 y.x.left, .slice y.a y.x.own.length y.c]] w
      fun e w' => e = .returned (.int .i64 (cfE x y)) ∧ GrownR w w' := by
  obtain ⟨z, hz⟩ : ∃ z, cfE x y = z := ⟨_, rfl⟩
  have HC : Hid (∀ W, Calls Tryz.prog 46 #[.int .i64 x.x.id, .int .i64 y.x.id] W fun e w' => e = .returned (.int .i64 z) ∧ W = w') := Lib.hid (fun W => by rw [← hz]; exact compare_any _ _ _)
  have HZ := Lib.hid hz
  clear hz
  go_enter Tryz.func45, Tryz.ntmps45
  go_wp2_with (go_at_call 46; refine (HC.out _).mono ?_; rintro e w2 ⟨rfl, rfl⟩)
  go_ret
  exact ⟨by rw [HZ.out]; rfl, (by first | exact GrownR.refl _ | exact (GrownR.alloc _ _).trans (GrownR.alloc _ _))⟩
theorem ltOf_el (x y : EV) : ltOf cfE x y = decide (x.x.id < y.x.id) := by unfold ltOf cfE; exact decide_eq_decide.2 cmpI_neg
theorem swo_el : SWO (ltOf cfE) where
  irrefl x := by rw [ltOf_el]; exact decide_eq_false (by omega)
  trans x y z h1 h2 := by rw [ltOf_el] at *; have := of_decide_eq_true h1; have := of_decide_eq_true h2; exact decide_eq_true (by omega)
  ntrans x y z h1 h2 := by rw [ltOf_el] at *; have := of_decide_eq_false h1; have := of_decide_eq_false h2; exact decide_eq_false (by omega)
theorem cmpLays_el (blk off size : Nat) (w : World) : CmpLays Tryz.prog 45 #[] EV.cells 3 cfE blk off size w := fun _ _ _ _ x y => eliCmp_any x y _
theorem flatE_get (d : Array EV) (t : Nat) : (flatK EV.cells 3 d).toList[t]? = (d.toList.flatMap EV.cells)[t]? := by
  by_cases ht : t < d.size * 3
  · have h2 := flat_get EV.len d.toList (t / 3) (t % 3) (by rw [Array.length_toList]; omega) (by omega)
    rw [show t / 3 * 3 + t % 3 = t from by omega] at h2
    rw [h2]
    have h3 : (flatK EV.cells 3 d)[t]! = (EV.cells d[t / 3]!)[t % 3]! := get_flatK _ _ _ _ ht
    rw [Array.getElem?_toList, Array.getElem?_eq_getElem (by rw [size_flatK]; exact ht)]
    rw [getElem!_pos _ t (by rw [size_flatK]; exact ht)] at h3
    rw [h3, getElem!_pos d (t / 3) (by omega), Array.getElem_toList]
    rcases (show t % 3 = 0 ∨ t % 3 = 1 ∨ t % 3 = 2 by omega) with h | h | h <;> rw [h] <;> rfl
  · rw [List.getElem?_eq_none (by rw [Array.length_toList, size_flatK]; omega), List.getElem?_eq_none (by rw [flat_length EV.len, Array.length_toList]; omega)]
theorem flatE_list (d : Array EV) : (flatK EV.cells 3 d).toList = d.toList.flatMap EV.cells := List.ext_getElem? (flatE_get d)
theorem holdsE_own {w : World} {base e n g cap : Nat} {ss : List EV} (H : w.ownsRow base e 3 (.slice (some ⟨g, 0, none⟩) n cap) n (ss.flatMap EV.cells)) (hn : ss.length = n) : HoldsK EV.cells 3 w g 0 ss.toArray := by
  intro j hj
  have hj2 : j < n * 3 := by rw [size_flatK, List.size_toArray] at hj; omega
  refine ⟨?_, ?_⟩
  · rw [Nat.zero_add, H.cellAt j hj2]
    have := flatE_get ss.toArray j
    rw [Array.getElem?_toList, Array.getElem?_eq_getElem hj] at this
    rw [← this, getElem!_pos _ j hj]
    rfl
  · rw [Nat.zero_add]; exact H.frozenAt j
theorem own_sortE {w : World} {base e n g cap m : Nat} {os : Array Obj} {xs : List Value} (H : w.ownsRow base e 3 (.slice (some ⟨g, 0, none⟩) n cap) n xs) (F : Array Value) (hF : F.size = n * 3) :
    (grow (putRow id (Sort.ahead w m) g 0 F) os).ownsRow base e 3 (.slice (some ⟨g, 0, none⟩) n cap) n F.toList ∧ w.grownBy (grow (putRow id (Sort.ahead w m) g 0 F) os) (some g) := by
  rcases H.2 with ⟨h', _⟩ | ⟨g', cap', cur, h', hb, hgb, hn, hm, hs, ht⟩
  · simp at h'
  · simp only [Value.slice.injEq, Option.some.injEq, Addr.mk.injEq, and_true, true_and] at h'
    obtain ⟨rfl, rfl⟩ := h'
    have hg : g < w.heap.size := (Array.getElem?_eq_some_iff.1 hgb).1
    have hheap : (grow (putRow id (Sort.ahead w m) g 0 F) os).heap[g]? = some (.cells (putCells id 0 F cur) e (0, 0)) := by
      rw [heap_grow_old _ _ (by simpa using hg)]
      simp [putRow, mapBlock, Sort.ahead, Array.getElem?_modify, hgb, onCells]
    refine ⟨⟨by rw [Array.length_toList, hF], .inr ⟨g, cap, _, rfl, hb, hheap, hn, hm, by simp [putCells, hs], ?_⟩⟩, rfl, rfl, rfl, by simp, fun k hk hne => ?_⟩
    · apply List.ext_getElem?
      intro j
      have hcs : n * 3 ≤ cur.size := by rw [hs]; exact Nat.mul_le_mul_right _ hn
      by_cases hj : j < n * 3
      · rw [List.getElem?_take_of_lt hj, Array.getElem?_toList, Array.getElem?_toList]
        simp [putCells, hj, show j < cur.size by omega, hF]
      · rw [List.getElem?_take_eq_none (by omega), List.getElem?_eq_none (by rw [Array.length_toList]; omega)]
    · rw [heap_grow_old _ _ (by simpa using hk)]
      have : g ≠ k := fun e => hne (by rw [e])
      simp [putRow, mapBlock, Sort.ahead, Array.getElem?_modify, this]
theorem sortEl_some (base g cap : Nat) (ss : List EV) (w : World) (H : w.ownsRow base 83 3 (.slice (some ⟨g, 0, none⟩) ss.length cap) ss.length (ss.flatMap EV.cells)) (hbig : ss.length ≤ 1000000) :
    Calls Tryz.prog 44 #[.slice (some ⟨g, 0, none⟩) ss.length cap, .func (.func 45) #[] #[]] w fun e w' =>
      e = .returned (.tuple #[]) ∧ ∃ ts : List EV, ts.Perm ss ∧ EliAsc (ts.map EV.x) ∧ w'.ownsRow base 83 3 (.slice (some ⟨g, 0, none⟩) ss.length cap) ss.length (ts.flatMap EV.cells) ∧ w.grownBy w' (some g) := by
  have eg : ∀ args w, (callFunc 45 args).run Tryz.prog w = .ok (.enter 45 args) w := enters_of Tryz.func45 (by kernel_rfl) rfl
  have hg := (H.lt g rfl)
  have hcon := AnyQ.slices_SortFunc Tryz.sortEl 3 Tryz.isAgg83 Tryz.sizeOf83 EV.cells (fun _ => rfl) EV.one cfE swo_el 45 #[] g 0 cap ss.toArray w eg (cmpLays_el g 0 _ w) (holdsE_own H rfl) hg.2 (by rw [List.size_toArray]; omega)
  change Calls Tryz.prog 44 #[.slice (some ⟨g, 0, none⟩) ss.length cap, .func (.func 45) #[] #[]] w _ at hcon
  refine hcon.mono ?_
  rintro e w' ⟨rfl, d', n, os, hp, hs, rfl⟩
  have hsz : d'.size = ss.length := by have := hp.1; rwa [List.size_toArray] at this
  have hperm : d'.toList.Perm ss := by
    have h := hp.2.2
    rw [show ss.toArray.size = d'.size from by rw [hsz, List.size_toArray]] at h
    rw [Array.extract_size] at h
    rw [show d'.size = ss.toArray.size from by rw [hsz, List.size_toArray], Array.extract_size] at h
    simpa using h
  obtain ⟨h1, h2⟩ := own_sortE (m := n) (os := os) H (flatK EV.cells 3 d') (by rw [size_flatK, hsz])
  refine ⟨rfl, d'.toList, hperm, ?_, ?_, h2⟩
  · unfold EliAsc
    rw [List.pairwise_map, List.pairwise_iff_getElem]
    intro i j hi hj hij
    rw [Array.length_toList] at hi hj
    have h := hs i j (Nat.zero_le _) hij (by rw [List.size_toArray]; omega)
    rw [ltOf_el, getElem!_pos d' i hi, getElem!_pos d' j hj] at h
    rw [Array.getElem_toList, Array.getElem_toList]
    have := of_decide_eq_false h
    omega
  · rw [← flatE_list]; exact h1
theorem sortEl_any (base n : Nat) (v : Value) (ss : List EV) (hn : ss.length = n) (w : World) (H : w.ownsRow base 83 3 v n (ss.flatMap EV.cells)) (hbig : ss.length ≤ 1000000) :
    Calls Tryz.prog 44 #[v, .func (.func 45) #[] #[]] w fun e w' =>
      e = .returned (.tuple #[]) ∧ ∃ ts : List EV, ts.Perm ss ∧ EliAsc (ts.map EV.x) ∧ w'.ownsRow base 83 3 v n (ts.flatMap EV.cells) ∧ w.grownBy w' v.ownBlock := by
  subst hn
  rcases H.2 with ⟨rfl, h0⟩ | ⟨g, cap, cur, rfl, _⟩
  · have hz := List.eq_nil_of_length_eq_zero h0
    subst hz
    refine (AnyF.slices_SortFunc_none (P := Tryz.prog) (ρ := Tryz.sortEl_ren) { Tryz.sortEl with } none 0 (.func (.func 45) #[] #[]) w).mono ?_
    rintro e w2 ⟨rfl, rfl⟩
    exact ⟨rfl, [], List.Perm.refl _, List.Pairwise.nil, H, World.grownBy.refl _ _⟩
  · exact sortEl_some base g cap ss w H hbig
end Go.Proofs.YtoaidbhiciaeaaaGreat

end
section
namespace Go.Proofs.YtoaidbhiciaeaaaGreat
open Go.RowKit
set_option linter.unusedSimpArgs false
set_option linter.unusedVariables false
def MtR (a b : MV) : Prop := a.x.id ≠ b.x.id ∧ ∀ r ∈ b.x.left ++ b.x.right, r ∉ a.x.left ++ a.x.right
theorem MtR.symm {a b : MV} (h : MtR a b) : MtR b a := ⟨fun e => h.1 e.symm, fun r hr hb => h.2 r hb hr⟩
theorem mem_refs (ms : List MV) (r : Rf) : r ∈ refsOf ms ↔ ∃ m ∈ ms, r ∈ m.x.left ++ m.x.right := by unfold refsOf; exact List.mem_flatMap
theorem okM_iff {es : List JV} {ms : List MV} {k : Nat} (hk : k < ms.length) : okM es ms k = true ↔ (1 ≤ ms[k].x.id ∧ (sidesR es ms[k].x).2.2 = 0) ∧ ∀ j (hj : j < ms.length), j < k → MtR ms[j] ms[k] := by
  rw [okM_at hk]
  simp only [Bool.and_eq_true, decide_eq_true_eq, Bool.not_eq_true', List.any_eq_false, beq_iff_eq, List.all_eq_true, memB, decide_eq_false_iff_not]
  constructor
  · rintro ⟨h1, h2, h3, h4⟩
    refine ⟨⟨h1, h3⟩, fun j hj hjk => ⟨fun e => h2 _ (List.mem_take_iff_getElem.2 ⟨j, by omega, rfl⟩) e, fun r hr hm => h4 r hr ((mem_refs _ _).2 ⟨_, List.mem_take_iff_getElem.2 ⟨j, by omega, rfl⟩, hm⟩)⟩⟩
  · rintro ⟨⟨h1, h3⟩, h⟩
    refine ⟨h1, fun q hq e => ?_, h3, fun r hr hm => ?_⟩
    · obtain ⟨j, hj, rfl⟩ := List.mem_take_iff_getElem.1 hq
      exact (h j (by omega) (by omega)).1 e
    · obtain ⟨m, hm1, hm2⟩ := (mem_refs _ _).1 hm
      obtain ⟨j, hj, rfl⟩ := List.mem_take_iff_getElem.1 hm1
      exact (h j (by omega) (by omega)).2 r hr hm2
theorem allMB_iff (es : List JV) (ms : List MV) : allMB es ms = true ↔ (∀ m ∈ ms, 1 ≤ m.x.id ∧ (sidesR es m.x).2.2 = 0) ∧ ms.Pairwise MtR ∧ ms.length ≤ 300 := by
  unfold allMB
  rw [Bool.and_eq_true, List.all_eq_true, decide_eq_true_eq]
  constructor
  · rintro ⟨h, hl⟩
    refine ⟨fun m hm => ?_, List.pairwise_iff_getElem.2 fun i j hi hj hij => ?_, hl⟩
    · obtain ⟨k, hk, rfl⟩ := List.getElem_of_mem hm
      exact ((okM_iff hk).1 (h k (List.mem_range.2 hk))).1
    · exact ((okM_iff hj).1 (h j (List.mem_range.2 hj))).2 i hi hij
  · rintro ⟨h1, h2, hl⟩
    refine ⟨fun k hk => ?_, hl⟩
    have hk := List.mem_range.1 hk
    exact (okM_iff hk).2 ⟨h1 _ (List.getElem_mem ..), fun j hj hjk => List.pairwise_iff_getElem.1 h2 j k hj hk hjk⟩
theorem allMB_ids {es : List JV} {ms : List MV} (h : allMB es ms = true) : (ms.map (fun m => m.x.id)).Nodup := List.pairwise_map.2 (((allMB_iff _ _).1 h).2.1.imp fun h => h.1)
theorem allMB_perm {es es2 : List JV} {ms l : List MV} (he : ∀ m, sidesR es m = sidesR es2 m) (hp : ms.Perm l) : allMB es ms = allMB es2 l := by
  rw [Bool.eq_iff_iff, allMB_iff, allMB_iff, hp.length_eq, hp.pairwise_iff (fun h => MtR.symm h)]
  simp only [he, hp.mem_iff]
theorem errI_zero {g : Grp} {es : List JV} {hs : List Hol} {ms : List MV} {p : Int} (h : errI g es hs ms p = 0) : grpB g = true ∧ hvalidB (g.ents.length : Int) hs = true ∧ allMB es ms = true := by
  unfold errI at h
  split at h
  · assumption
  · cases h
theorem find_nodup {α κ : Type} [DecidableEq κ] (f : α → κ) : ∀ {l : List α}, (l.map f).Nodup → ∀ (k : κ) (x : α), l.find? (fun y => decide (f y = k)) = some x ↔ x ∈ l ∧ f x = k
  | [], _, k, x => by simp
  | y :: t, h, k, x => by
    rw [List.map_cons, List.nodup_cons] at h
    rw [List.find?_cons]
    by_cases hy : f y = k
    · rw [decide_eq_true hy]
      constructor
      · intro e; cases e; exact ⟨List.mem_cons_self .., hy⟩
      · rintro ⟨h1, h2⟩
        rcases List.mem_cons.1 h1 with e | e
        · rw [e]
        · exact absurd (List.mem_map.2 ⟨x, e, h2.trans hy.symm⟩) h.1
    · rw [decide_eq_false hy]
      simp only
      rw [find_nodup f h.2 k x, List.mem_cons]
      constructor
      · rintro ⟨h1, h2⟩; exact ⟨.inr h1, h2⟩
      · rintro ⟨h1 | h1, h2⟩
        · exact absurd (h1 ▸ h2) hy
        · exact ⟨h1, h2⟩
theorem find_perm {α κ : Type} [DecidableEq κ] (f : α → κ) {l m : List α} (hp : l.Perm m) (hd : (l.map f).Nodup) (k : κ) : l.find? (fun y => decide (f y = k)) = m.find? (fun y => decide (f y = k)) := by
  refine Option.ext fun x => ?_
  have e1 := find_nodup f hd k x
  have e2 := find_nodup f ((hp.map f).nodup_iff.1 hd) k x
  rw [hp.mem_iff] at e1
  exact e1.trans e2.symm
theorem get_findIdx {α : Type} (p : α → Bool) : ∀ l : List α, l[l.findIdx p]? = l.find? p
  | [] => rfl
  | x :: t => by
    rw [List.findIdx_cons, List.find?_cons]
    cases h : p x with
    | true => rfl
    | false => simpa using get_findIdx p t
theorem ep_perm {es es2 : List JV} (hp : es.Perm es2) (hd : (es.map (fun e => e.x.id)).Nodup) (r : Rf) : ep es r = ep es2 r := by
  have h1 : es[fpos es r.e]? = es2[fpos es2 r.e]? := by
    unfold fpos
    rw [get_findIdx, get_findIdx]
    have := find_perm (fun e : JV => e.x.id) hp hd r.e
    have hq : (fun e : JV => e.x.id == r.e) = fun y => decide (y.x.id = r.e) := by funext e; rw [Bool.eq_iff_iff]; simp
    rw [hq]
    exact this
  unfold ep
  rw [h1]
theorem sides_perm {es es2 : List JV} (hp : es.Perm es2) (hd : (es.map (fun e => e.x.id)).Nodup) (m : Mt) : sidesR es m = sidesR es2 m := by
  have h0 : ep es = ep es2 := funext (ep_perm hp hd)
  have h1 : ∀ L, sideE es L = sideE es2 L := fun L => by unfold sideE; rw [h0]
  have h2 : ∀ L, entP es L = entP es2 L := fun L => by unfold entP; rw [h1]
  unfold sidesR pairOk
  rw [h2, h2]
theorem findI_perm {l m : List Itm} (hp : l.Perm m) (hd : (l.map Itm.ref).Nodup) (r : Rf) : findI l r = findI m r := find_perm Itm.ref hp hd r
theorem elis_perm {g : Grp} {es es2 : List JV} {hs : List Hol} {ms ms2 : List MV} {items items2 : List Itm} (d : Int) (hpe : es.Perm es2) (hde : (es.map (fun e => e.x.id)).Nodup) (hpi : items.Perm items2) (hdi : (items.map Itm.ref).Nodup) (hpm : ms.Perm ms2) :
    (elisR g es hs items d ms).Perm (elisR g es2 hs items2 d ms2) := by
  have h1 : ∀ r, itemAt items r = itemAt items2 r := fun r => by unfold itemAt; rw [findI_perm hpi hdi]
  have h2 : refOk g.rl.r7 items d = refOk g.rl.r7 items2 d := by funext r; unfold refOk; rw [h1, findI_perm hpi hdi]
  have h3 : eliB g es hs items d = eliB g es2 hs items2 d := by funext m; unfold eliB; rw [sides_perm hpe hde, h2]
  have h4 : eliM es items = eliM es2 items2 := by funext m; unfold eliM; rw [sides_perm hpe hde, funext h1]
  unfold elisR
  rw [h3, h4]
  exact (hpm.filter _).map _
theorem elis_ids {g : Grp} {es : List JV} {hs : List Hol} {ms : List MV} {items : List Itm} {d : Int} (h : allMB es ms = true) : ((elisR g es hs items d ms).map Eli.id).Nodup := by
  unfold elisR
  rw [List.map_map]
  exact List.Nodup.sublist ((List.filter_sublist (l := ms)).map _) (allMB_ids h)
theorem sortE_perm_eq {l m : List Eli} (h : l.Perm m) (hd : (l.map Eli.id).Nodup) : sortE l = sortE m := sortE_eq ((sortE_perm l).trans h) ((h.map _).nodup_iff.1 hd) (sortE_asc l)
theorem posts_order {g : Grp} {es es2 : List JV} {hs : List Hol} {ms ms2 : List MV} {items items2 : List Itm} {p : Int} (hpe : es.Perm es2) (hde : (es.map (fun e => e.x.id)).Nodup) (hpi : items.Perm items2) (hdi : (items.map Itm.ref).Nodup) (hpm : ms.Perm ms2) :
    postsF g es hs ms items p = postsF g es2 hs ms2 items2 p := by
  have he : errI g es hs ms p = errI g es2 hs ms2 p := by unfold errI; rw [allMB_perm (sides_perm hpe hde) hpm]
  unfold postsF
  rw [he]
  by_cases h : errI g es2 hs ms2 p = 0
  · rw [if_pos h, if_pos h]
    unfold elisS
    rw [sortE_perm_eq (elis_perm (dayB g p) hpe hde hpi hdi hpm) (elis_ids (errI_zero (he.trans h)).2.2)]
  · rw [if_neg h, if_neg h]
theorem elisS_mem {g : Grp} {es : List JV} {hs : List Hol} {ms : List MV} {items : List Itm} {p : Int} {x : Eli} : x ∈ elisS g es hs ms items p ↔ ∃ m ∈ ms, eliB g es hs items (dayB g p) m.x = true ∧ eliM es items m.x = x := by
  unfold elisS
  rw [(sortE_perm _).mem_iff]
  unfold elisR
  rw [List.mem_map]
  constructor
  · rintro ⟨m, hm, rfl⟩
    obtain ⟨h1, h2⟩ := List.mem_filter.1 hm
    exact ⟨m, h1, h2, rfl⟩
  · rintro ⟨m, h1, h2, rfl⟩
    exact ⟨m, List.mem_filter.2 ⟨h1, h2⟩, rfl⟩
end Go.Proofs.YtoaidbhiciaeaaaGreat

end
section
namespace Go.Proofs.YtoaidbhiciaeaaaGreat
open Go.RowKit
set_option linter.unusedSimpArgs false
set_option linter.unusedVariables false
theorem elemEl : ElemOf Tryz.prog 80 83 (.agg #[.int .i64 0, .int .i64 0, .slice none 0 0]) 3 40 := ⟨Tryz.underlying80, by kernel_rfl, rfl, by omega⟩
structure IcaR (w wr : World) (g : Grp) (es : List JV) (hs : List Hol) (items : List Itm) (d : Int) (ms : List MV) (k : Nat) (v : Value) (ls : List EV) : Prop where
  kp : Keeps w wr
  own : wr.ownsRow w.heap.size 83 3 v ls.length (ls.flatMap EV.cells)
  inn : Inn eliD wr v.ownBlock ls
  eq : ls.map EV.x = elisR g es hs items d (ms.take k)
def AOut (w : World) (xs : List Eli) (e : Ending) (w' : World) : Prop := ∃ (ts : List EV) (ao : Option Addr) (cap b : Nat), e = .returned (.slice ao ts.length cap) ∧ Recs w' 3 EV.cells ao ts cap b 0 ∧ (∀ q ∈ ts, eliD.rec1 w' q) ∧ ts.map EV.x = xs ∧ Keeps w w'
theorem ica_skip {w wr wn : World} {g : Grp} {es : List JV} {hs : List Hol} {items : List Itm} {d : Int} {ms : List MV} {k : Nat} {v : Value} {ls : List EV} (H : IcaR w wr g es hs items d ms k v ls) (hk : k < ms.length) {m : MV} (hm : ms[k] = m) (hq : eliB g es hs items d m.x = false) (hn : Keeps wr wn) : IcaR w wn g es hs items d ms (k + 1) v ls :=
  ⟨H.kp.trans hn, own_keepsH H.own hn, H.inn.keeps hn, by rw [H.eq, take_snoc _ k hk, hm, elisR_snoc, if_neg (by rw [hq]; simp)]⟩
theorem elis_len (g : Grp) (es : List JV) (hs : List Hol) (items : List Itm) (d : Int) (ms : List MV) : (elisR g es hs items d ms).length ≤ ms.length := by
  unfold elisR
  rw [List.length_map]
  exact List.length_filter_le _ _
set_option maxRecDepth 100000 in
set_option maxHeartbeats 4000000 in
theorem fall_any (bv : List Value) (g : Grp) (es : List JV) (hs : List Hol) (ms : List MV) (items : List Itm) (B mb : Nat) (a b : Int) (w : World) (HF : Fin w B mb bv items a b) (H : BkG w bv g es hs ms) (SM : SmallB g es hs ms items) (hB : allMB es ms = true) :
    Calls Tryz.prog 26 #[.pointer (some ⟨B, 0, none⟩)] w (AOut w (sortE (elisR g es hs items b ms))) := by
  obtain ⟨aoM, capM, bM, oM, hb24, hM⟩ := H.bks.mts
  have h24 := HF.cell hb24
  have hcap := Sl.cap hM.row
  have hle := Sl.le hM.row
  have HM := Lib.hid hM
  have hmlen := SM.mlen
  have HMC : Hid (∀ (m : MV) W, m ∈ ms → Keeps w W → Calls Tryz.prog 43 #[.pointer (some ⟨B, 0, none⟩), .agg #[.int .i64 m.x.id, .slice m.al m.x.left.length m.cl, .slice m.ar m.x.right.length m.cr, .int .i64 m.x.state]] W (MOut W (eliB g es hs items b m.x) (eliM es items m.x))) := Lib.hid (fun m W hm hk =>
    mtch_any bv g es hs ms items B mb a b m.x m.al m.cl m.bl m.ol m.ar m.cr m.br m.or_ W (HF.keeps hk) (H.keeps hk) SM ((hM.left m hm).keeps hk) ((hM.right m hm).keeps hk) (SM.sides m hm).1 (SM.sides m hm).2 (H.bks.mok m hm))
  have HID := Lib.hid (elis_ids (g := g) (hs := hs) (items := items) (d := b) hB)
  clear HF H SM hB hM hb24
  go_enter Tryz.func26, Tryz.ntmps26
  go_wp2_with fail
  go_loopw [3, 14] (fun v vi wr => ∃ (k : Nat) (ls : List EV), k ≤ ms.length ∧ vi = .int .i64 k ∧ Hid (IcaR w wr g es hs items b ms k v ls)) (fun _ vi _ => ms.length - (intOf vi).toNat)
  case atStart => exact ⟨0, [], Nat.zero_le _, rfl, Lib.hid ⟨Keeps.refl _, World.ownsRow_nil _ _ _ _, Inn.nil, by rw [List.take_zero]; rfl⟩⟩
  case round =>
    obtain ⟨k, ls, hk, rfl, HW⟩ := hrel
    have KW := Lib.hid HW.out.kp
    by_cases hlt : k < ms.length
    · have hr := HM.out.row.keeps KW.out
      have hix := Sl.at hr Tryz.underlying33 Tryz.sizeOf48 k hlt
      obtain ⟨m, hmk⟩ : ∃ m, ms[k] = m := ⟨_, rfl⟩
      have c0 := hr.cell MV.len k hlt 0 (.int .i64 m.x.id) (by rw [hmk]; rfl)
      have c1 := hr.cell MV.len k hlt 1 (.slice m.al m.x.left.length m.cl) (by rw [hmk]; rfl)
      have c2 := hr.cell MV.len k hlt 2 (.slice m.ar m.x.right.length m.cr) (by rw [hmk]; rfl)
      have c3 := hr.cell MV.len k hlt 3 (.int .i64 m.x.state) (by rw [hmk]; rfl)
      rw [Nat.add_zero] at c0
      have HMK := Lib.hid hmk
      have HMT : Hid (Calls Tryz.prog 43 #[.pointer (some ⟨B, 0, none⟩), .agg #[.int .i64 m.x.id, .slice m.al m.x.left.length m.cl, .slice m.ar m.x.right.length m.cr, .int .i64 m.x.state]] (wr.alloc (.cells #[.int .i64 m.x.id, .slice m.al m.x.left.length m.cl, .slice m.ar m.x.right.length m.cr, .int .i64 m.x.state] 48)) (MOut (wr.alloc (.cells #[.int .i64 m.x.id, .slice m.al m.x.left.length m.cl, .slice m.ar m.x.right.length m.cr, .int .i64 m.x.state] 48)) (eliB g es hs items b m.x) (eliM es items m.x))) := Lib.hid (HMC.out m _ (by rw [← hmk]; exact List.getElem_mem ..) (KW.out.alloc _))
      clear hr hmk
      obtain ⟨x, hx⟩ : ∃ x, eliM es items m.x = x := ⟨_, rfl⟩
      rw [hx] at HMT
      have HX := Lib.hid hx
      clear hx
      cases hq : eliB g es hs items b m.x with
      | false =>
        have HQ := Lib.hid hq
        rw [hq] at HMT
        clear hq
        go_wp2_with (go_at_call 43; (refine (HMT.out).mono ?_); rintro e5 w5 ⟨v5, rfl, hk5, hy5, hn5⟩; obtain rfl := hn5 rfl)
        go_roundw
        case rel => exact ⟨k + 1, ls, by omega, by go_num, Lib.hid (ica_skip HW.out hlt HMK.out HQ.out ((((Keeps.refl wr).alloc _).trans hk5).alloc _))⟩
        case measure => simp [intOf]; omega
      | true =>
        have HQ := Lib.hid hq
        rw [hq] at HMT
        clear hq
        have hls : ls.length ≤ k := by
          have := congrArg List.length HW.out.eq
          rw [List.length_map] at this
          have h2 := elis_len g es hs items b (ms.take k)
          rw [List.length_take] at h2
          omega
        go_wp2_with (first | (go_at_call 43; (refine (HMT.out).mono ?_); rintro e5 w5 ⟨v5, rfl, hk5, hy5, hn5⟩; obtain ⟨a5, c5, rfl, ho5⟩ := hy5 rfl; have HO5 := Lib.hid (And.intro hk5 ho5); have hkr := (((Keeps.refl wr).alloc (.cells #[.int .i64 m.x.id, .slice m.al m.x.left.length m.cl, .slice m.ar m.x.right.length m.cr, .int .i64 m.x.state] 48)).trans hk5); have KR := Lib.hid hkr; obtain ⟨ao6, cap6, b6, he6, hs6⟩ := Sl.own ho5; cases he6; have HS6 := Lib.hid hs6; clear hy5 hn5 hk5 ho5 hkr hs6) | (at_builtin; (refine wpList_app_nest elemEl rfl (.tmp 25) (.tmp 27) rfl w _ ls.length (ls.flatMap EV.cells) rfl w.heap.size (own_keepsH HW.out.own (KR.out.alloc _)) (KW.out.trans (KR.out.alloc _)) (KW.out.trans (KR.out.alloc _)).size eliD ls (HW.out.inn.keeps (KR.out.alloc _)) ⟨x, a5, c5, b6⟩ (Sl.keeps HS6.out ((Keeps.refl w5).alloc _)) (off_new (D := eliD) (y := ⟨x, a5, c5, b6⟩) (HW.out.own.alloc (.cells #[.int .i64 m.x.id, .slice m.al m.x.left.length m.cl, .slice m.ar m.x.right.length m.cr, .int .i64 m.x.state] 48)) (own_keepsH HO5.out.2 ((Keeps.refl w5).alloc _)) (Sl.keeps HS6.out ((Keeps.refl w5).alloc _))) [.int .i64 x.id, .int .i64 x.left, .slice a5 x.own.length c5] _ 1 rfl (by simp) rfl (EV.one ⟨x, a5, c5, b6⟩) (by omega) (by omega) ?_); intro v' w9 hown' hinn' hk9 hsz9; have HN : Hid (IcaR w w9 g es hs items b ms (k + 1) v' (ls ++ [⟨x, a5, c5, b6⟩])) := Lib.hid ⟨hk9, by rw [List.length_append, List.flatMap_append]; exact hown', hinn', by rw [List.map_append, HW.out.eq, take_snoc _ k hlt, HMK.out, elisR_snoc, if_pos HQ.out, HX.out]; rfl⟩; clear hown' hinn' hk9 hsz9))
        go_roundw
        case rel => exact ⟨k + 1, ls ++ [⟨x, a5, c5, b6⟩], by omega, by go_num, HN⟩
        case measure => simp [intOf]; omega
    · obtain rfl : k = ms.length := by omega
      have heq : ls.map EV.x = elisR g es hs items b ms := by have := HW.out.eq; rwa [List.take_length] at this
      have hls : ls.length ≤ 1000000 := by
        have := congrArg List.length heq
        rw [List.length_map] at this
        have h2 := elis_len g es hs items b ms
        omega
      have HEQ := Lib.hid heq
      clear heq
      go_wp2_with (go_at_call 44; (refine (sortEl_any w.heap.size ls.length _ ls rfl _ HW.out.own hls).mono ?_); rintro e5 w5 ⟨rfl, ts, hp, ha, ho, hg⟩; have HT := Lib.hid (And.intro hp (And.intro ha (And.intro ho hg))); clear hp ha ho hg)
      go_ret
      obtain ⟨hp, ha, ho, hg⟩ := HT.out
      have hn : ls.length = ts.length := hp.length_eq.symm
      rw [hn] at ho
      obtain ⟨ao6, cap6, b6, rfl, hs6⟩ := Sl.own ho
      refine ⟨ts, ao6, cap6, b6, rfl, hs6, fun q hq => ((HW.out.inn.grown hg (.inl rfl)) q (hp.mem_iff.1 hq)).1, ?_, Below.grown KW.out hg KW.out.size (fun j hj => (HW.out.own.lt j hj).1)⟩
      refine sortE_eq ?_ HID.out ha
      rw [← HEQ.out]
      exact hp.map _
end Go.Proofs.YtoaidbhiciaeaaaGreat

end
