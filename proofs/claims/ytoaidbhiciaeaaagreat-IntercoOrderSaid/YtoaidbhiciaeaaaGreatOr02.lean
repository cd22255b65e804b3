/- Walks and plain facts that the claim rests on (Sorted, Keys, HolTotP, HolRAt, AtP, HolSmall, DateW). No condition. -/
import Derived.Shelf.SlGeneric
import Derived.Shelf.SlIterI.Nil
import Derived.Shelf.SortM.Plain
import Derived.Shelf.SortM.SortNone
import Derived.Ground.GgzProg
import Derived.Ground.SlgmProg
import Derived.Test.YtoaidbhiciaeaaaGreatProg
import Derived.Test.YtoaidbhiciaeaaaGreatOr01
import Derived.Deep.QuietTactic
import Derived.BigQuiet
import Derived.IntWalk
section
namespace Go.Proofs
open Go.Shelf
def Tryz.keys48_ren : Go.Shelf.Ren := ⟨fun | 7 => 48 | 10 => 83 | n => n, fun | 23 => 116 | 26 => 3 | 3 => 3 | 28 => 119 | 0 => 0 | 27 => 118 | 33 => 121 | 4 => 4 | n => n, fun | n => n⟩
theorem Tryz.keys48 : Go.Proofs.SlLaysZI.n7 Tryz.prog Tryz.keys48_ren := {
  mixed := by kernel_rfl
  f7 := ⟨Tryz.f48.name, by decide, Tryz.func48.trans (congrArg some (by kernel_rfl))⟩
  f10 := ⟨Tryz.f83.name, by decide, Tryz.func83.trans (congrArg some (by kernel_rfl))⟩
  t0 := Tryz.underlying0
  a0 := Tryz.isAgg0
  z0 := Tryz.sizeOf0
  v0 := Tryz.zeroValue0
  t4 := Tryz.underlying4
  a4 := Tryz.isAgg4
  z4 := Tryz.sizeOf4
  v4 := Tryz.zeroValue4
  t23 := Tryz.underlying116
  a23 := Tryz.isAgg116
  z23 := Tryz.sizeOf116
  v23 := Tryz.zeroValue116
  t26 := Tryz.underlying3
  a26 := Tryz.isAgg3
  z26 := Tryz.sizeOf3
  v26 := Tryz.zeroValue3
  t27 := Tryz.underlying118
  a27 := Tryz.isAgg118
  z27 := Tryz.sizeOf118
  v27 := Tryz.zeroValue118
  t28 := Tryz.underlying119
  a28 := Tryz.isAgg119
  z28 := Tryz.sizeOf119
  v28 := Tryz.zeroValue119
  t33 := Tryz.underlying121
  a33 := Tryz.isAgg121
  z33 := Tryz.sizeOf121
  v33 := Tryz.zeroValue121 }
def Tryz.sorted47_ren : Go.Shelf.Ren := ⟨fun | 6 => 47 | 8 => 81 | 9 => 82 | 11 => 128 | 13 => 79 | 12 => 129 | 23 => 126 | 24 => 127 | 14 => 158 | 15 => 159 | 16 => 160 | 17 => 161 | 18 => 162 | 19 => 163 | 20 => 164 | 21 => 165 | 22 => 166 | 25 => 180 | 26 => 154 | 27 => 155 | 28 => 181 | 29 => 182 | 30 => 80 | 31 => 187 | n => n, fun | 26 => 3 | 28 => 119 | 24 => 69 | 0 => 0 | 3 => 3 | 37 => 147 | 48 => 189 | 50 => 191 | 4 => 4 | 40 => 183 | 39 => 182 | 45 => 149 | 5 => 5 | 9 => 9 | 51 => 211 | 55 => 215 | 57 => 230 | 58 => 88 | 33 => 121 | n => n, fun | n => n⟩
theorem Tryz.sorted47 : Go.Proofs.SlLaysZI.n6 Tryz.prog Tryz.sorted47_ren := {
  mixed := by kernel_rfl
  f6 := ⟨Tryz.f47.name, by decide, Tryz.func47.trans (congrArg some (by kernel_rfl))⟩
  f8 := ⟨Tryz.f81.name, by decide, Tryz.func81.trans (congrArg some (by kernel_rfl))⟩
  f11 := ⟨Tryz.f128.name, by decide, Tryz.func128.trans (congrArg some (by kernel_rfl))⟩
  t0 := Tryz.underlying0
  a0 := Tryz.isAgg0
  z0 := Tryz.sizeOf0
  v0 := Tryz.zeroValue0
  t24 := Tryz.underlying69
  a24 := Tryz.isAgg69
  z24 := Tryz.sizeOf69
  v24 := Tryz.zeroValue69
  t26 := Tryz.underlying3
  a26 := Tryz.isAgg3
  z26 := Tryz.sizeOf3
  v26 := Tryz.zeroValue3
  t28 := Tryz.underlying119
  a28 := Tryz.isAgg119
  z28 := Tryz.sizeOf119
  v28 := Tryz.zeroValue119
  i26 := by kernel_rfl }
def Tryz.sort82_ren : Go.Shelf.Ren := ⟨fun | 5 => 82 | 8 => 79 | 7 => 129 | 19 => 126 | 20 => 127 | 10 => 158 | 11 => 159 | 12 => 160 | 13 => 161 | 14 => 162 | 15 => 163 | 16 => 164 | 17 => 165 | 18 => 166 | 30 => 180 | 31 => 154 | 32 => 155 | 33 => 181 | 34 => 182 | 35 => 80 | 40 => 187 | n => n, fun | 23 => 69 | 25 => 3 | 3 => 3 | 32 => 147 | 22 => 69 | 0 => 0 | 44 => 189 | 46 => 191 | 4 => 4 | 36 => 183 | 35 => 182 | 41 => 149 | 5 => 5 | 9 => 9 | 53 => 211 | 57 => 215 | 63 => 230 | 64 => 88 | n => n, fun | n => n⟩
theorem Tryz.sort82 : Go.Proofs.SlLaysM.n5 Tryz.prog Tryz.sort82_ren := {
  mixed := by kernel_rfl
  f5 := ⟨Tryz.f82.name, by decide, Tryz.func82.trans (congrArg some (by kernel_rfl))⟩
  f7 := ⟨Tryz.f129.name, by decide, Tryz.func129.trans (congrArg some (by kernel_rfl))⟩
  f8 := Tryz.func79.trans (congrArg some (by kernel_rfl))
  f10 := ⟨Tryz.f158.name, by decide, Tryz.func158.trans (congrArg some (by kernel_rfl))⟩
  f11 := ⟨Tryz.f159.name, by decide, Tryz.func159.trans (congrArg some (by kernel_rfl))⟩
  f12 := ⟨Tryz.f160.name, by decide, Tryz.func160.trans (congrArg some (by kernel_rfl))⟩
  f13 := ⟨Tryz.f161.name, by decide, Tryz.func161.trans (congrArg some (by kernel_rfl))⟩
  f14 := ⟨Tryz.f162.name, by decide, Tryz.func162.trans (congrArg some (by kernel_rfl))⟩
  f15 := ⟨Tryz.f163.name, by decide, Tryz.func163.trans (congrArg some (by kernel_rfl))⟩
  f16 := ⟨Tryz.f164.name, by decide, Tryz.func164.trans (congrArg some (by kernel_rfl))⟩
  f17 := ⟨Tryz.f165.name, by decide, Tryz.func165.trans (congrArg some (by kernel_rfl))⟩
  f18 := ⟨Tryz.f166.name, by decide, Tryz.func166.trans (congrArg some (by kernel_rfl))⟩
  f19 := Tryz.func126.trans (congrArg some (by kernel_rfl))
  f20 := Tryz.func127.trans (congrArg some (by kernel_rfl))
  f30 := ⟨Tryz.f180.name, by decide, Tryz.func180.trans (congrArg some (by kernel_rfl))⟩
  f31 := Tryz.func154.trans (congrArg some (by kernel_rfl))
  f32 := Tryz.func155.trans (congrArg some (by kernel_rfl))
  f33 := ⟨Tryz.f181.name, by decide, Tryz.func181.trans (congrArg some (by kernel_rfl))⟩
  f34 := ⟨Tryz.f182.name, by decide, Tryz.func182.trans (congrArg some (by kernel_rfl))⟩
  f35 := ⟨Tryz.f80.name, by decide, Tryz.func80.trans (congrArg some (by kernel_rfl))⟩
  f40 := ⟨Tryz.f187.name, by decide, Tryz.func187.trans (congrArg some (by kernel_rfl))⟩
  t0 := Tryz.underlying0
  a0 := Tryz.isAgg0
  z0 := Tryz.sizeOf0
  v0 := Tryz.zeroValue0
  t3 := Tryz.underlying3
  a3 := Tryz.isAgg3
  z3 := Tryz.sizeOf3
  v3 := Tryz.zeroValue3
  t4 := Tryz.underlying4
  a4 := Tryz.isAgg4
  z4 := Tryz.sizeOf4
  v4 := Tryz.zeroValue4
  t5 := Tryz.underlying5
  a5 := Tryz.isAgg5
  z5 := Tryz.sizeOf5
  v5 := Tryz.zeroValue5
  t9 := Tryz.underlying9
  a9 := Tryz.isAgg9
  z9 := Tryz.sizeOf9
  v9 := Tryz.zeroValue9
  t22 := Tryz.underlying69
  a22 := Tryz.isAgg69
  z22 := Tryz.sizeOf69
  v22 := Tryz.zeroValue69
  t23 := Tryz.underlying69
  a23 := Tryz.isAgg69
  z23 := Tryz.sizeOf69
  v23 := Tryz.zeroValue69
  t25 := Tryz.underlying3
  a25 := Tryz.isAgg3
  z25 := Tryz.sizeOf3
  v25 := Tryz.zeroValue3
  t32 := Tryz.underlying147
  a32 := Tryz.isAgg147
  z32 := Tryz.sizeOf147
  v32 := Tryz.zeroValue147
  t35 := Tryz.underlying182
  a35 := Tryz.isAgg182
  z35 := Tryz.sizeOf182
  v35 := Tryz.zeroValue182
  t36 := Tryz.underlying183
  a36 := Tryz.isAgg183
  z36 := Tryz.sizeOf183
  v36 := Tryz.zeroValue183
  t41 := Tryz.underlying149
  a41 := Tryz.isAgg149
  z41 := Tryz.sizeOf149
  v41 := Tryz.zeroValue149
  t44 := Tryz.underlying189
  a44 := Tryz.isAgg189
  z44 := Tryz.sizeOf189
  v44 := Tryz.zeroValue189
  t46 := Tryz.underlying191
  a46 := Tryz.isAgg191
  z46 := Tryz.sizeOf191
  v46 := Tryz.zeroValue191
  t53 := Tryz.underlying211
  a53 := Tryz.isAgg211
  z53 := Tryz.sizeOf211
  v53 := Tryz.zeroValue211
  t57 := Tryz.underlying215
  a57 := Tryz.isAgg215
  z57 := Tryz.sizeOf215
  v57 := Tryz.zeroValue215
  t63 := Tryz.underlying230
  a63 := Tryz.isAgg230
  z63 := Tryz.sizeOf230
  v63 := Tryz.zeroValue230
  t64 := Tryz.underlying88
  a64 := Tryz.isAgg88
  z64 := Tryz.sizeOf88
  v64 := Tryz.zeroValue88 }
open Go.RowKit Go.Maps Go.Sort in
theorem Tryz.sorts47 (m : Nat) : AnyZI.SortsIn Tryz.prog Tryz.sorted47_ren Fence.wide m :=
  ⟨fun blk off cap ss W hH hblk hsz => callsIn_wide.2 (AnyM.slices_Sort_int Tryz.sort82 blk off cap ss W hH hblk hsz),
   fun p cap W => callsIn_wide.2 (AnyM.slices_Sort_int_none Tryz.sort82 p cap W)⟩
open Go.RowKit Go.Maps Go.Sort in
theorem Tryz.mapKeys48 (mb : Option Nat) (W : World) : Calls Tryz.prog 48 #[.map mb] W fun e w' => e = .returned (.func (.func 83) #[] #[.pointer (some ⟨W.heap.size, 0, none⟩)]) ∧ w' = W.alloc (.cells #[.map mb] 116) :=
  (callsIn_wide (n := 5)).1 (AnyZI.keys_in Tryz.keys48 Fence.wide 5 trivial rfl mb W)
open Go.RowKit Go.Maps Go.Sort in
theorem Tryz.sortedKeys48 {H : Type} (b nn Bm : Nat) (D0 : DataW H) (R : Value → Option (DataW H × List MemPlace)) (w : World) (hm : w.cell? ⟨Bm, 0, none⟩ = some (.map (some b))) (hown : w.ownsMap Tryz.prog 3 R b nn D0) (hmax : Maps.size D0 ≤ maxLen) (hbytes : Maps.size D0 * 8 ≤ 140737488355328) :
    Calls Tryz.prog 47 #[.func (.func 83) #[] #[.pointer (some ⟨Bm, 0, none⟩)]] w fun e w' => ∃ (v : Value) (ss : List Int), e = .returned v ∧ ss.Perm (intKeys D0) ∧
      w'.ownsRow w.heap.size 3 1 v ss.length ((ss.mergeSort (fun x y => decide (x ≤ y))).map encZ) ∧ (v = .slice none 0 0 ↔ ss = []) ∧ Below w.heap.size w w' :=
  (callsIn_wide (n := 5)).1 (AnyZI.sorted_in Tryz.sorted47 Fence.wide 5 trivial trivial trivial trivial rfl (by omega) (Tryz.sorts47 _) (enters_of Tryz.func82 (by kernel_rfl) rfl) 83 #[.pointer (some ⟨Bm, 0, none⟩)] trivial (enters_of Tryz.func83 (by kernel_rfl) rfl) _ _ hmax hbytes _
    (AnyZI.keys_gives (ρ := Tryz.keys48_ren) { Tryz.keys48 with } Fence.wide _ trivial rfl (by omega) Bm b nn D0 w (World.block_lt_of_cell? w _ hm) hm hown))
def Tryz.keys110_ren : Go.Shelf.Ren := ⟨fun | 7 => 110 | 10 => 149 | n => n, fun | 23 => 140 | 26 => 3 | 3 => 4 | 28 => 119 | 0 => 0 | 27 => 118 | 33 => 121 | 4 => 4 | n => n, fun | n => n⟩
theorem Tryz.keys110 : Go.Proofs.SlLaysZI.n7 Tryz.prog Tryz.keys110_ren := {
  mixed := by kernel_rfl
  f7 := ⟨Tryz.f110.name, by decide, Tryz.func110.trans (congrArg some (by kernel_rfl))⟩
  f10 := ⟨Tryz.f149.name, by decide, Tryz.func149.trans (congrArg some (by kernel_rfl))⟩
  t0 := Tryz.underlying0
  a0 := Tryz.isAgg0
  z0 := Tryz.sizeOf0
  v0 := Tryz.zeroValue0
  t4 := Tryz.underlying4
  a4 := Tryz.isAgg4
  z4 := Tryz.sizeOf4
  v4 := Tryz.zeroValue4
  t23 := Tryz.underlying140
  a23 := Tryz.isAgg140
  z23 := Tryz.sizeOf140
  v23 := Tryz.zeroValue140
  t26 := Tryz.underlying3
  a26 := Tryz.isAgg3
  z26 := Tryz.sizeOf3
  v26 := Tryz.zeroValue3
  t27 := Tryz.underlying118
  a27 := Tryz.isAgg118
  z27 := Tryz.sizeOf118
  v27 := Tryz.zeroValue118
  t28 := Tryz.underlying119
  a28 := Tryz.isAgg119
  z28 := Tryz.sizeOf119
  v28 := Tryz.zeroValue119
  t33 := Tryz.underlying121
  a33 := Tryz.isAgg121
  z33 := Tryz.sizeOf121
  v33 := Tryz.zeroValue121 }
open Go.RowKit Go.Maps Go.Sort in
theorem Tryz.mapKeys110 (mb : Option Nat) (W : World) : Calls Tryz.prog 110 #[.map mb] W fun e w' => e = .returned (.func (.func 149) #[] #[.pointer (some ⟨W.heap.size, 0, none⟩)]) ∧ w' = W.alloc (.cells #[.map mb] 140) :=
  (callsIn_wide (n := 5)).1 (AnyZI.keys_in Tryz.keys110 Fence.wide 5 trivial rfl mb W)
open Go.RowKit Go.Maps Go.Sort in
theorem Tryz.sortedKeys110 {H : Type} (b nn Bm : Nat) (D0 : DataW H) (R : Value → Option (DataW H × List MemPlace)) (w : World) (hm : w.cell? ⟨Bm, 0, none⟩ = some (.map (some b))) (hown : w.ownsMap Tryz.prog 3 R b nn D0) (hmax : Maps.size D0 ≤ maxLen) (hbytes : Maps.size D0 * 8 ≤ 140737488355328) :
    Calls Tryz.prog 47 #[.func (.func 149) #[] #[.pointer (some ⟨Bm, 0, none⟩)]] w fun e w' => ∃ (v : Value) (ss : List Int), e = .returned v ∧ ss.Perm (intKeys D0) ∧
      w'.ownsRow w.heap.size 3 1 v ss.length ((ss.mergeSort (fun x y => decide (x ≤ y))).map encZ) ∧ (v = .slice none 0 0 ↔ ss = []) ∧ Below w.heap.size w w' :=
  (callsIn_wide (n := 5)).1 (AnyZI.sorted_in Tryz.sorted47 Fence.wide 5 trivial trivial trivial trivial rfl (by omega) (Tryz.sorts47 _) (enters_of Tryz.func82 (by kernel_rfl) rfl) 149 #[.pointer (some ⟨Bm, 0, none⟩)] trivial (enters_of Tryz.func149 (by kernel_rfl) rfl) _ _ hmax hbytes _
    (AnyZI.keys_gives (ρ := Tryz.keys110_ren) { Tryz.keys110 with } Fence.wide _ trivial rfl (by omega) Bm b nn D0 w (World.block_lt_of_cell? w _ hm) hm hown))
end Go.Proofs

end
section
namespace Go.Proofs.YtoaidbhiciaeaaaGreat
open Go.RowKit Go.Maps
def I64 (x : Int) : Prop := -9223372036854775808 ≤ x ∧ x ≤ 9223372036854775807
theorem wf64 {x : Int} : (Lit.int .i64 x).wf = true ↔ I64 x := by
  unfold I64
  simp [Lit.wf, IntKind.min, IntKind.max, IntKind.signed, IntKind.bits]
def intK : KeyEnc Tryz.prog 3 Int where
  enc := .int .i64
  lit := .int .i64
  ok := I64
  keyed := int_keyed Tryz.underlying3
  key a ha := keyOf_int_mk Tryz.underlying3 (wf64.2 ha)
  inj a b _ _ h := by simpa using h
def Asc (l : List Int) : Prop := l.Pairwise (· < ·)
theorem Asc.nodup {l : List Int} (h : Asc l) : l.Nodup := h.imp fun h e => by omega
theorem Asc.eq {l m : List Int} (hl : Asc l) (hm : Asc m) (h : ∀ x, x ∈ l ↔ x ∈ m) : l = m := by
  refine List.Perm.eq_of_pairwise (le := fun a b => a < b) (fun a b _ _ h1 h2 => by omega) hl hm ((List.perm_ext_iff_of_nodup hl.nodup hm.nodup).2 h)
theorem VMap.keys {w : World} {b n : Nat} {f : Int → Option Value} (h : VMap intK w b n f) : ∃ D : DataW Value, w.ownsMap Tryz.prog 3 hold b n D ∧ Maps.size D ≤ n ∧ (intKeys D).Nodup ∧ ∀ x, x ∈ intKeys D ↔ (I64 x ∧ (f x).isSome = true) := by
  obtain ⟨D, ho, h2⟩ := h
  have hw := intKeys_wf ho Tryz.underlying3
  obtain ⟨es, hD, hpw, hkl⟩ := ho.entries intK.keyed
  obtain ⟨es', hD', hko⟩ := ho.keysOf
  have hsz : Maps.size D ≤ n := by
    obtain ⟨es0, clock, _, _, hs, rfl⟩ := ho
    show ((es0.toList.map _).foldr DataW.insert []).length ≤ n
    rw [length_sorted]
    simpa using hs
  subst hD
  have hki : ∀ p ∈ es, ∃ x, p.1 = .int .i64 x := fun p hp => by
    cases hD'
    obtain ⟨v, hv⟩ := hko p hp
    obtain ⟨x, _, hx, _⟩ := Maps.keyOf_i64 Tryz.underlying3 hv
    exact ⟨x, hx⟩
  refine ⟨_, ho, hsz, ?_, fun x => ?_⟩
  · show (es.map fun p => Go.intOf p.1).Nodup
    refine List.pairwise_map.2 (hpw.imp_of_mem fun {p q} hp' hq' hne e => hne ?_)
    obtain ⟨a, ha⟩ := hki p hp'
    obtain ⟨c, hc⟩ := hki q hq'
    rw [ha, hc] at e ⊢
    exact congrArg _ e
  · have hmem : x ∈ intKeys (.map es) ↔ has (.map es) (.int .i64 x) = true := by
      rw [has_eq, List.any_eq_true]
      show x ∈ es.map (fun p => Go.intOf p.1) ↔ _
      rw [List.mem_map]
      constructor
      · rintro ⟨p, hp', rfl⟩
        obtain ⟨a, ha⟩ := hki p hp'
        exact ⟨p, hp', by rw [ha]; simp [Lit.sameKey, Go.intOf]⟩
      · rintro ⟨p, hp', hs⟩
        obtain ⟨a, ha⟩ := hki p hp'
        rw [ha] at hs
        exact ⟨p, hp', by rw [ha]; simpa [Lit.sameKey, Go.intOf] using hs⟩
    constructor
    · intro hx
      have hx1 := wf64.1 (hw x hx)
      exact ⟨hx1, by rw [← (h2 x hx1).1]; exact hmem.1 hx⟩
    · rintro ⟨hx1, hx2⟩
      rw [← (h2 x hx1).1] at hx2
      exact hmem.2 hx2
def KeysAre (f : Int → Option Value) (xs : List Int) : Prop := Asc xs ∧ ∀ x, x ∈ xs ↔ (I64 x ∧ (f x).isSome = true)
theorem sorted_keys {D : DataW Value} {f : Int → Option Value} {ss : List Int} (hn : (intKeys D).Nodup) (hm : ∀ x, x ∈ intKeys D ↔ (I64 x ∧ (f x).isSome = true)) (hp : ss.Perm (intKeys D)) : KeysAre f (ss.mergeSort (fun x y => decide (x ≤ y))) := by
  have tr : ∀ a b c : Int, decide (a ≤ b) = true → decide (b ≤ c) = true → decide (a ≤ c) = true := fun a b c h1 h2 => by simp only [decide_eq_true_eq] at *; omega
  have to : ∀ a b : Int, (decide (a ≤ b) || decide (b ≤ a)) = true := fun a b => by simp only [Bool.or_eq_true, decide_eq_true_eq]; omega
  have hs := List.pairwise_mergeSort tr to ss
  have hpp : (ss.mergeSort (fun x y => decide (x ≤ y))).Perm (intKeys D) := (List.mergeSort_perm ss _).trans hp
  have hnd : (ss.mergeSort (fun x y => decide (x ≤ y))).Nodup := hpp.nodup_iff.2 hn
  refine ⟨?_, fun x => by rw [hpp.mem_iff]; exact hm x⟩
  refine (List.pairwise_and_iff.2 ⟨hs, hnd⟩).imp fun {a b} h => ?_
  have := h.1
  simp only [decide_eq_true_eq] at this
  have := h.2
  omega
def OutK (w : World) (f : Int → Option Value) (e : Ending) (w' : World) : Prop := ∃ v xs, e = .returned v ∧ IntL w' v xs ∧ KeysAre f xs ∧ Keeps w w'
theorem sortedB_any (b n Bm : Nat) (f : Int → Option Value) (w : World) (hm : w.cell? ⟨Bm, 0, none⟩ = some (.map (some b))) (h : VMap intK w b n f) (hn : n ≤ 1000000) :
    Calls Tryz.prog 47 #[.func (.func 149) #[] #[.pointer (some ⟨Bm, 0, none⟩)]] w (OutK w f) := by
  obtain ⟨D, ho, hsz, hnd, hmem⟩ := h.keys
  refine (Tryz.sortedKeys110 b n Bm D hold w hm ho (by unfold maxLen; omega) (by omega)).mono fun e w' h => ?_
  obtain ⟨v, ss, rfl, hp, hrow, _, hb⟩ := h
  refine ⟨v, _, rfl, ?_, sorted_keys hnd hmem hp, hb⟩
  have hl : (ss.mergeSort (fun x y => decide (x ≤ y))).length = ss.length := List.length_mergeSort _
  exact IntL.own (by rw [hl]; exact hrow)
theorem keysB_any (mb : Option Nat) (w : World) : Calls Tryz.prog 110 #[.map mb] w fun e w' => e = .returned (.func (.func 149) #[] #[.pointer (some ⟨w.heap.size, 0, none⟩)]) ∧ w.alloc (.cells #[.map mb] 140) = w' :=
  (Tryz.mapKeys110 mb w).mono fun _ _ h => ⟨h.1, h.2.symm⟩
end Go.Proofs.YtoaidbhiciaeaaaGreat

end
section
namespace Go.Proofs.YtoaidbhiciaeaaaGreat
open Go.RowKit Go.Maps
set_option linter.unusedSimpArgs false
def firstsH (l : List Hol) : List Int := l.foldl (fun a x => if a.contains x.holder then a else a ++ [x.holder]) []
theorem firstsH_snoc (l : List Hol) (x : Hol) : firstsH (l ++ [x]) = if (firstsH l).contains x.holder then firstsH l else firstsH l ++ [x.holder] := by simp [firstsH, List.foldl_append]
theorem snoc_ind {α : Type} {p : List α → Prop} (h0 : p []) (h1 : ∀ l x, p l → p (l ++ [x])) : ∀ l, p l := by
  have key : ∀ (n : Nat) (l : List α), l.length = n → p l := by
    intro n
    induction n with
    | zero => intro l hl; rw [List.eq_nil_of_length_eq_zero hl]; exact h0
    | succ n ih =>
      intro l hl
      have hne : l ≠ [] := by intro e; subst e; simp at hl
      rw [← List.dropLast_concat_getLast hne]
      exact h1 _ _ (ih _ (by simp [hl]))
  exact fun l => key _ l rfl
theorem firstsH_mem (l : List Hol) : ∀ h, h ∈ firstsH l ↔ ∃ x ∈ l, x.holder = h := by
  induction l using snoc_ind with
  | h0 => intro h; simp [firstsH]
  | h1 l x ih =>
    intro h
    rw [firstsH_snoc]
    split
    · rename_i hc
      rw [ih]
      have hc' : x.holder ∈ firstsH l := by simpa using hc
      obtain ⟨y, hy, e⟩ := (ih _).1 hc'
      constructor
      · rintro ⟨z, hz, rfl⟩; exact ⟨z, by simp [hz], rfl⟩
      · rintro ⟨z, hz, rfl⟩
        rcases List.mem_append.1 hz with hz | hz
        · exact ⟨z, hz, rfl⟩
        · simp only [List.mem_singleton] at hz; subst hz; exact ⟨y, hy, e⟩
    · simp only [List.mem_append, List.mem_singleton, ih]
      constructor
      · rintro (⟨z, hz, rfl⟩ | rfl)
        · exact ⟨z, .inl hz, rfl⟩
        · exact ⟨x, .inr rfl, rfl⟩
      · rintro ⟨z, hz | rfl, rfl⟩
        · exact .inl ⟨z, hz, rfl⟩
        · exact .inr rfl
theorem firstsH_nodup (l : List Hol) : (firstsH l).Nodup := by
  induction l using snoc_ind with
  | h0 => simp [firstsH]
  | h1 l x ih =>
    rw [firstsH_snoc]
    split
    · exact ih
    · rename_i hc
      have hc' : x.holder ∉ firstsH l := by simpa using hc
      rw [List.nodup_append]
      refine ⟨ih, by simp, ?_⟩
      intro a ha b hb e
      simp only [List.mem_singleton] at hb
      subst hb; exact hc' (e ▸ ha)
theorem firstsH_len (l : List Hol) : (firstsH l).length ≤ l.length := by
  induction l using snoc_ind with
  | h0 => simp [firstsH]
  | h1 l x ih =>
    rw [firstsH_snoc]
    split <;> simp <;> omega
def sumAt (l : List Hol) (e d : Int) (hs : List Int) : Int := (hs.map fun h => atH l h e d).sum
def totH (l : List Hol) (e d : Int) : Int := sumAt l e d (firstsH l)
def ShB (l : List Hol) : Prop := ∀ x ∈ l, -1000000000 ≤ x.share ∧ x.share ≤ 1000000000
theorem curH_mem {d : Int} {l : List Hol} {m : Hol} (h : curH d l = some m) : m ∈ l := by
  induction l using snoc_ind generalizing m with
  | h0 => cases h
  | h1 l x ih =>
    rw [curH_snoc] at h
    split at h
    · cases hc : curH d l with
      | none => rw [hc] at h; simp only [Option.some.injEq] at h; subst h; simp
      | some y =>
        rw [hc] at h
        simp only [Option.some.injEq] at h
        unfold pickH at h
        split at h
        · subst h; simp
        · subst h; simp [ih hc]
    · simp [ih h]
theorem atH_bd {l : List Hol} (hb : ShB l) (h e d : Int) : -1000000000 ≤ atH l h e d ∧ atH l h e d ≤ 1000000000 := by
  unfold atH
  cases hc : curH d (ofPair l h e) with
  | none => exact ⟨by decide, by decide⟩
  | some m => exact hb m (List.mem_filter.1 (curH_mem hc)).1
theorem sumAt_bd {l : List Hol} (hb : ShB l) (e d : Int) (hs : List Int) : -(1000000000 * (hs.length : Int)) ≤ sumAt l e d hs ∧ sumAt l e d hs ≤ 1000000000 * (hs.length : Int) := by
  induction hs with
  | nil => simp [sumAt]
  | cons h hs ih =>
    have h1 := atH_bd hb h e d
    have h2 : sumAt l e d (h :: hs) = atH l h e d + sumAt l e d hs := by simp [sumAt]
    rw [h2, List.length_cons]
    omega
def doneAt (l : List Hol) (e d : Int) (hs : List Int) (left : Lit → Bool) : Int := sumAt l e d (hs.filter fun h => !left (.int .i64 h))
theorem doneAt_start {l : List Hol} {e d : Int} {hs : List Int} {left : Lit → Bool} (h : ∀ x ∈ hs, left (.int .i64 x) = true) : doneAt l e d hs left = 0 := by
  unfold doneAt
  rw [List.filter_eq_nil_iff.2 (fun x hx => by simp [h x hx])]
  rfl
theorem doneAt_end {l : List Hol} {e d : Int} {hs : List Int} {left : Lit → Bool} (h : ∀ kl, left kl = false) : doneAt l e d hs left = sumAt l e d hs := by
  unfold doneAt
  rw [List.filter_eq_self.2 (fun x _ => by simp [h])]
theorem same_int (x y : Int) : (Lit.int .i64 y).sameKey (.int .i64 x) = decide (y = x) := by
  simp [Lit.sameKey]
theorem doneAt_step {l : List Hol} {e d : Int} {left : Lit → Bool} {x : Int} (hl : left (.int .i64 x) = true) : ∀ {hs : List Int}, hs.Nodup → x ∈ hs →
    doneAt l e d hs (fun z => left z && !z.sameKey (.int .i64 x)) = doneAt l e d hs left + atH l x e d := by
  intro hs
  induction hs with
  | nil => intro _ h; cases h
  | cons y hs ih =>
    intro hn hx
    have hy := (List.nodup_cons.1 hn).1
    have hn' := (List.nodup_cons.1 hn).2
    have e1 : ∀ (g : Lit → Bool), doneAt l e d (y :: hs) g = (if g (.int .i64 y) = true then 0 else atH l y e d) + doneAt l e d hs g := by
      intro g
      unfold doneAt
      rw [List.filter_cons]
      cases hg : g (.int .i64 y) <;> simp [sumAt]
    rw [e1, e1]
    by_cases hxy : y = x
    · subst hxy
      have h3 : doneAt l e d hs (fun z => left z && !z.sameKey (.int .i64 y)) = doneAt l e d hs left := by
        unfold doneAt
        congr 1
        apply List.filter_congr
        intro z hz
        have hzy : z ≠ y := fun e => hy (e ▸ hz)
        simp [same_int, hzy]
      rw [h3]
      simp [hl, same_int]
      omega
    · rcases List.mem_cons.1 hx with rfl | hx
      · exact absurd rfl hxy
      · rw [ih hn' hx]
        simp only [same_int, hxy, decide_false, Bool.not_false, Bool.and_true]
        omega
theorem doneAt_bd {l : List Hol} (hb : ShB l) (e d : Int) (hs : List Int) (left : Lit → Bool) : -(1000000000 * (hs.length : Int)) ≤ doneAt l e d hs left ∧ doneAt l e d hs left ≤ 1000000000 * (hs.length : Int) := by
  unfold doneAt
  have h1 := sumAt_bd hb e d (hs.filter fun h => !left (.int .i64 h))
  have h2 := List.length_filter_le (fun h : Int => !left (.int .i64 h)) hs
  omega
def hasH (l : List Hol) : Int → Option Value := fun h => if l.any (fun x => x.holder == h) then some (.bool true) else none
theorem hasH_nil : hasH [] = fun _ => none := by funext h; simp [hasH]
theorem hasH_snoc (l : List Hol) (x : Hol) : hasH (l ++ [x]) x.holder = some (.bool true) ∧ ∀ d, d ≠ x.holder → hasH (l ++ [x]) d = hasH l d := by
  refine ⟨by simp [hasH], fun d hd => ?_⟩
  have : (x.holder == d) = false := by simpa using fun e => hd e.symm
  simp [hasH, this]
theorem hasH_some (l : List Hol) (h : Int) : (hasH l h).isSome = true ↔ h ∈ firstsH l := by
  rw [firstsH_mem]
  unfold hasH
  cases hc : l.any (fun x => x.holder == h) with
  | true =>
    simp only [if_true, Option.isSome_some, true_iff]
    simpa using hc
  | false =>
    simp only [Bool.false_eq_true, if_false, Option.isSome_none, false_iff]
    rintro ⟨x, hx, rfl⟩
    rw [List.any_eq_false] at hc
    simpa using hc x hx
end Go.Proofs.YtoaidbhiciaeaaaGreat

end
section
namespace Go.Proofs.YtoaidbhiciaeaaaGreat
def dateB (d : Int) : Bool := decide (-25567 ≤ d) && decide (d ≤ 84005)
end Go.Proofs.YtoaidbhiciaeaaaGreat

end
section
namespace Go.Proofs.YtoaidbhiciaeaaaGreat
open Go.RowKit
set_option linter.unusedSimpArgs false
set_option linter.unusedVariables false
theorem hdate_any (d : Int) (w : World) : Calls Tryz.prog 109 #[.int .i64 d] w fun e w' => e = .returned (.bool (dateB d)) ∧ w = w' := by
  by_cases h : -25567 ≤ d
  · go_enter Tryz.func109, Tryz.ntmps109
    go_wp2
    go_ret
    exact ⟨retb (by first | (simp [dateB, h]; done) | (simp [dateB]; omega)), rfl⟩
  · go_enter Tryz.func109, Tryz.ntmps109
    go_wp2
    go_ret
    exact ⟨retb (by first | (simp [dateB, h]; done) | (simp [dateB]; omega)), rfl⟩
def sameH (a b : Hol) : Bool := a.holder == b.holder && a.entity == b.entity && a.date == b.date
def properB (n : Int) (x : Hol) : Bool := decide (0 ≤ x.holder) && decide (x.holder < n) && decide (0 ≤ x.entity) && decide (x.entity < n) && (x.holder != x.entity) && dateB x.date && decide (0 ≤ x.share) && decide (x.share ≤ 10000)
end Go.Proofs.YtoaidbhiciaeaaaGreat

end
section
namespace Go.Proofs.YtoaidbhiciaeaaaGreat
open Go.RowKit
set_option linter.unusedSimpArgs false
set_option linter.unusedVariables false
theorem idx12 (k : Nat) (hk : k < 12) : ∀ w, (Instr.index 154 (.agg #[.int .i64 31, .int .i64 28, .int .i64 31, .int .i64 30, .int .i64 31, .int .i64 30, .int .i64 31, .int .i64 31, .int .i64 30, .int .i64 31, .int .i64 30, .int .i64 31]) (.int .i64 (k : Int))).run Tryz.prog w = .ok (.int .i64 (daysL.getD k 0)) w := by
  intro w
  have z3 := Tryz.sizeOf3
  have a3 := Tryz.isAgg3
  rcases (show k = 0 ∨ k = 1 ∨ k = 2 ∨ k = 3 ∨ k = 4 ∨ k = 5 ∨ k = 6 ∨ k = 7 ∨ k = 8 ∨ k = 9 ∨ k = 10 ∨ k = 11 by omega) with rfl | rfl | rfl | rfl | rfl | rfl | rfl | rfl | rfl | rfl | rfl | rfl
  all_goals simp [Instr.index, run_underlying Tryz.underlying154, asIntOf, go_sem, part, z3, a3, daysL]
theorem idx12_0 (w : World) : (Instr.index 154 (.agg #[.int .i64 31, .int .i64 28, .int .i64 31, .int .i64 30, .int .i64 31, .int .i64 30, .int .i64 31, .int .i64 31, .int .i64 30, .int .i64 31, .int .i64 30, .int .i64 31]) (.int .i64 0)).run Tryz.prog w = .ok (.int .i64 31) w := idx12 0 (by decide) w
theorem idx12_1 (w : World) : (Instr.index 154 (.agg #[.int .i64 31, .int .i64 28, .int .i64 31, .int .i64 30, .int .i64 31, .int .i64 30, .int .i64 31, .int .i64 31, .int .i64 30, .int .i64 31, .int .i64 30, .int .i64 31]) (.int .i64 1)).run Tryz.prog w = .ok (.int .i64 28) w := idx12 1 (by decide) w
theorem idx12_2 (w : World) : (Instr.index 154 (.agg #[.int .i64 31, .int .i64 28, .int .i64 31, .int .i64 30, .int .i64 31, .int .i64 30, .int .i64 31, .int .i64 31, .int .i64 30, .int .i64 31, .int .i64 30, .int .i64 31]) (.int .i64 2)).run Tryz.prog w = .ok (.int .i64 31) w := idx12 2 (by decide) w
theorem idx12_3 (w : World) : (Instr.index 154 (.agg #[.int .i64 31, .int .i64 28, .int .i64 31, .int .i64 30, .int .i64 31, .int .i64 30, .int .i64 31, .int .i64 31, .int .i64 30, .int .i64 31, .int .i64 30, .int .i64 31]) (.int .i64 3)).run Tryz.prog w = .ok (.int .i64 30) w := idx12 3 (by decide) w
theorem idx12_4 (w : World) : (Instr.index 154 (.agg #[.int .i64 31, .int .i64 28, .int .i64 31, .int .i64 30, .int .i64 31, .int .i64 30, .int .i64 31, .int .i64 31, .int .i64 30, .int .i64 31, .int .i64 30, .int .i64 31]) (.int .i64 4)).run Tryz.prog w = .ok (.int .i64 31) w := idx12 4 (by decide) w
theorem idx12_5 (w : World) : (Instr.index 154 (.agg #[.int .i64 31, .int .i64 28, .int .i64 31, .int .i64 30, .int .i64 31, .int .i64 30, .int .i64 31, .int .i64 31, .int .i64 30, .int .i64 31, .int .i64 30, .int .i64 31]) (.int .i64 5)).run Tryz.prog w = .ok (.int .i64 30) w := idx12 5 (by decide) w
theorem idx12_6 (w : World) : (Instr.index 154 (.agg #[.int .i64 31, .int .i64 28, .int .i64 31, .int .i64 30, .int .i64 31, .int .i64 30, .int .i64 31, .int .i64 31, .int .i64 30, .int .i64 31, .int .i64 30, .int .i64 31]) (.int .i64 6)).run Tryz.prog w = .ok (.int .i64 31) w := idx12 6 (by decide) w
theorem idx12_7 (w : World) : (Instr.index 154 (.agg #[.int .i64 31, .int .i64 28, .int .i64 31, .int .i64 30, .int .i64 31, .int .i64 30, .int .i64 31, .int .i64 31, .int .i64 30, .int .i64 31, .int .i64 30, .int .i64 31]) (.int .i64 7)).run Tryz.prog w = .ok (.int .i64 31) w := idx12 7 (by decide) w
theorem idx12_8 (w : World) : (Instr.index 154 (.agg #[.int .i64 31, .int .i64 28, .int .i64 31, .int .i64 30, .int .i64 31, .int .i64 30, .int .i64 31, .int .i64 31, .int .i64 30, .int .i64 31, .int .i64 30, .int .i64 31]) (.int .i64 8)).run Tryz.prog w = .ok (.int .i64 30) w := idx12 8 (by decide) w
theorem idx12_9 (w : World) : (Instr.index 154 (.agg #[.int .i64 31, .int .i64 28, .int .i64 31, .int .i64 30, .int .i64 31, .int .i64 30, .int .i64 31, .int .i64 31, .int .i64 30, .int .i64 31, .int .i64 30, .int .i64 31]) (.int .i64 9)).run Tryz.prog w = .ok (.int .i64 31) w := idx12 9 (by decide) w
theorem idx12_10 (w : World) : (Instr.index 154 (.agg #[.int .i64 31, .int .i64 28, .int .i64 31, .int .i64 30, .int .i64 31, .int .i64 30, .int .i64 31, .int .i64 31, .int .i64 30, .int .i64 31, .int .i64 30, .int .i64 31]) (.int .i64 10)).run Tryz.prog w = .ok (.int .i64 30) w := idx12 10 (by decide) w
theorem idx12_11 (w : World) : (Instr.index 154 (.agg #[.int .i64 31, .int .i64 28, .int .i64 31, .int .i64 30, .int .i64 31, .int .i64 30, .int .i64 31, .int .i64 31, .int .i64 30, .int .i64 31, .int .i64 30, .int .i64 31]) (.int .i64 11)).run Tryz.prog w = .ok (.int .i64 31) w := idx12 11 (by decide) w
set_option maxRecDepth 100000 in
theorem leapP_any (y : Int) (w : World) : Calls Tryz.prog 114 #[.int .i64 y] w fun e w' => e = .returned (.bool (leapF y)) ∧ w = w' := by
  obtain ⟨a, ha⟩ : ∃ a, (y.tmod 4 == 0) = a := ⟨_, rfl⟩
  obtain ⟨b, hb⟩ : ∃ b, (y.tmod 100 != 0) = b := ⟨_, rfl⟩
  obtain ⟨c, hc⟩ : ∃ c, (y.tmod 400 == 0) = c := ⟨_, rfl⟩
  have HL : Hid (leapF y = (a && (b || c))) := Lib.hid (by rw [← ha, ← hb, ← hc]; rfl)
  cases a with
  | false =>
    go_enter Tryz.func114, Tryz.ntmps114
    go_wp2_with fail
    go_ret
    exact ⟨by rw [HL.out]; rfl, rfl⟩
  | true =>
    cases b with
    | true =>
      go_enter Tryz.func114, Tryz.ntmps114
      go_wp2_with fail
      go_ret
      exact ⟨by rw [HL.out]; rfl, rfl⟩
    | false =>
      go_enter Tryz.func114, Tryz.ntmps114
      go_wp2_with fail
      go_ret
      exact ⟨by rw [HL.out]; rfl, rfl⟩
theorem days_lit {y m : Int} (h1 : 1900 ≤ y) (h2 : y ≤ 2199) (h3 : 1 ≤ m) (h4 : m ≤ 12) (h5 : m ≠ 2) : dmF y m = daysL.getD (m - 1).toNat 0 := by
  unfold dmF
  rw [if_neg (by omega), if_neg (by simp [h5])]
set_option maxRecDepth 100000 in
set_option maxHeartbeats 2000000 in
theorem daysP_any (y m : Int) (w : World) : Calls Tryz.prog 73 #[.int .i64 y, .int .i64 m] w fun e w' => e = .returned (.int .i64 (dmF y m)) ∧ Keeps w w' := by
  by_cases h1 : y < 1900
  · have HD := Lib.hid (dmF_zero (y := y) (m := m) (by omega))
    obtain ⟨b, hb⟩ : ∃ b, decide (m < 1) = b := ⟨_, rfl⟩
    obtain ⟨c, hc⟩ : ∃ c, decide (12 < m) = c := ⟨_, rfl⟩
    have e1 : decide (y < 1900) = true := decide_eq_true h1
    clear h1
    cases b <;> cases c <;> (go_enter Tryz.func73, Tryz.ntmps73; go_wp2_with fail; go_ret; exact ⟨by rw [HD.out]; rfl, Keeps.refl w⟩)
  · have e1 : decide (y < 1900) = false := decide_eq_false h1
    by_cases h2 : 2199 < y
    · have HD := Lib.hid (dmF_zero (y := y) (m := m) (by omega))
      obtain ⟨b, hb⟩ : ∃ b, decide (m < 1) = b := ⟨_, rfl⟩
      obtain ⟨c, hc⟩ : ∃ c, decide (12 < m) = c := ⟨_, rfl⟩
      have e2 : decide (2199 < y) = true := decide_eq_true h2
      clear h1 h2
      cases b <;> cases c <;> (go_enter Tryz.func73, Tryz.ntmps73; go_wp2_with fail; go_ret; exact ⟨by rw [HD.out]; rfl, Keeps.refl w⟩)
    · have e2 : decide (2199 < y) = false := decide_eq_false h2
      by_cases h3 : m < 1
      · have HD := Lib.hid (dmF_zero (y := y) (m := m) (by omega))
        have e3 : decide (m < 1) = true := decide_eq_true h3
        clear h1 h2 h3
        go_enter Tryz.func73, Tryz.ntmps73
        go_wp2_with fail
        go_ret
        exact ⟨by rw [HD.out]; rfl, Keeps.refl w⟩
      · have e3 : decide (m < 1) = false := decide_eq_false h3
        by_cases h4 : 12 < m
        · have HD := Lib.hid (dmF_zero (y := y) (m := m) (by omega))
          have e4 : decide (12 < m) = true := decide_eq_true h4
          clear h1 h2 h3 h4
          go_enter Tryz.func73, Tryz.ntmps73
          go_wp2_with fail
          go_ret
          exact ⟨by rw [HD.out]; rfl, Keeps.refl w⟩
        · have ix0 := idx12_0; have ix1 := idx12_1; have ix2 := idx12_2; have ix3 := idx12_3; have ix4 := idx12_4; have ix5 := idx12_5; have ix6 := idx12_6; have ix7 := idx12_7; have ix8 := idx12_8; have ix9 := idx12_9; have ix10 := idx12_10; have ix11 := idx12_11
          obtain ⟨q, hq⟩ : ∃ q, leapF y = q := ⟨_, rfl⟩
          have HLP : Hid (∀ W, Calls Tryz.prog 114 #[.int .i64 y] W fun e w' => e = .returned (.bool q) ∧ W = w') := Lib.hid (fun W => by rw [← hq]; exact leapP_any y W)
          rcases (show m = 1 ∨ m = 2 ∨ m = 3 ∨ m = 4 ∨ m = 5 ∨ m = 6 ∨ m = 7 ∨ m = 8 ∨ m = 9 ∨ m = 10 ∨ m = 11 ∨ m = 12 by omega) with rfl | rfl | rfl | rfl | rfl | rfl | rfl | rfl | rfl | rfl | rfl | rfl
          case inr.inl =>
            cases q with
            | true =>
              have HD : Hid (dmF y 2 = 29) := Lib.hid (by unfold dmF; rw [if_neg (by omega), hq]; rfl)
              clear h1 h2 h3 h4 hq e3
              go_enter Tryz.func73, Tryz.ntmps73
              go_wp2_with (go_at_call 114; refine (HLP.out _).mono ?_; rintro e w2 ⟨rfl, rfl⟩)
              go_ret
              exact ⟨by rw [HD.out]; rfl, by first | exact Keeps.refl w | exact (Keeps.refl w).alloc _⟩
            | false =>
              have HD : Hid (dmF y 2 = 28) := Lib.hid (by unfold dmF; rw [if_neg (by omega), hq]; rfl)
              clear h1 h2 h3 h4 hq e3
              go_enter Tryz.func73, Tryz.ntmps73
              go_wp2_with (go_at_call 114; refine (HLP.out _).mono ?_; rintro e w2 ⟨rfl, rfl⟩)
              go_ret
              exact ⟨by rw [HD.out]; rfl, by first | exact Keeps.refl w | exact (Keeps.refl w).alloc _⟩
          all_goals
            have HY : Hid (1900 ≤ y ∧ y ≤ 2199) := Lib.hid ⟨by omega, by omega⟩
            clear h1 h2 h3 h4 hq e3 HLP
            go_enter Tryz.func73, Tryz.ntmps73
            go_wp2_with fail
            go_ret
            have hy := HY.out
            refine ⟨?_, by first | exact Keeps.refl w | exact (Keeps.refl w).alloc _⟩
            rw [days_lit (y := y)]
            all_goals first | rfl | omega
end Go.Proofs.YtoaidbhiciaeaaaGreat

end
