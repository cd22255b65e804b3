/-
  DERIVED: THE SHELF's CONTRACTS AT THIS DUMP, IN PLAIN WORDS (tools/lay-plain.mjs out of 'TrySorted.lean', which tools/lay-shelf.mjs wrote): THE SAME DECLARATIONS UNDER THE SAME NAMES: 'import', 'namespace', 'open', 'def', 'theorem' AND NOTHING ELSE: no command of the shelf's: FOR A HAND-IN. Each laying: the table of numbers ('.._ren') and one theorem, a field a fact of the dump's own or the kernel's comparison; each contract: ONE APPLICATION.
-/
import Derived.Shelf.SlGeneric
import Derived.Shelf.SlIterI.Nil
import Derived.Shelf.SortM.Plain
import Derived.Shelf.SortM.SortNone
import Derived.Ground.GgzProg
import Derived.Ground.SlgmProg
import Derived.Test.YtfddhmhagijodaaProg
namespace Go.Proofs
open Go.Shelf
def Try.keys30_ren : Go.Shelf.Ren := ⟨fun | 7 => 30 | 10 => 49 | n => n, fun | 23 => 71 | 26 => 3 | 3 => 3 | 28 => 79 | 0 => 0 | 27 => 78 | 33 => 105 | 4 => 4 | n => n, fun | n => n⟩
theorem Try.keys30 : Go.Proofs.SlLaysZI.n7 Try.prog Try.keys30_ren := {
  mixed := by kernel_rfl
  f7 := ⟨Try.f30.name, by decide, Try.func30.trans (congrArg some (by kernel_rfl))⟩
  f10 := ⟨Try.f49.name, by decide, Try.func49.trans (congrArg some (by kernel_rfl))⟩
  t0 := Try.underlying0
  a0 := Try.isAgg0
  z0 := Try.sizeOf0
  v0 := Try.zeroValue0
  t4 := Try.underlying4
  a4 := Try.isAgg4
  z4 := Try.sizeOf4
  v4 := Try.zeroValue4
  t23 := Try.underlying71
  a23 := Try.isAgg71
  z23 := Try.sizeOf71
  v23 := Try.zeroValue71
  t26 := Try.underlying3
  a26 := Try.isAgg3
  z26 := Try.sizeOf3
  v26 := Try.zeroValue3
  t27 := Try.underlying78
  a27 := Try.isAgg78
  z27 := Try.sizeOf78
  v27 := Try.zeroValue78
  t28 := Try.underlying79
  a28 := Try.isAgg79
  z28 := Try.sizeOf79
  v28 := Try.zeroValue79
  t33 := Try.underlying105
  a33 := Try.isAgg105
  z33 := Try.sizeOf105
  v33 := Try.zeroValue105 }
def Try.sorted29_ren : Go.Shelf.Ren := ⟨fun | 6 => 29 | 8 => 47 | 9 => 48 | 11 => 59 | 13 => 61 | 12 => 60 | 23 => 76 | 24 => 77 | 14 => 67 | 15 => 68 | 16 => 69 | 17 => 70 | 18 => 71 | 19 => 72 | 20 => 73 | 21 => 74 | 22 => 75 | 25 => 88 | 26 => 89 | 27 => 90 | 28 => 91 | 29 => 92 | 30 => 66 | 31 => 97 | n => n, fun | 26 => 3 | 28 => 79 | 24 => 76 | 0 => 0 | 3 => 3 | 37 => 118 | 48 => 133 | 50 => 135 | 4 => 4 | 40 => 125 | 39 => 124 | 45 => 130 | 5 => 5 | 9 => 9 | 51 => 143 | 55 => 147 | 57 => 151 | 58 => 152 | 33 => 105 | n => n, fun | n => n⟩
theorem Try.sorted29 : Go.Proofs.SlLaysZI.n6 Try.prog Try.sorted29_ren := {
  mixed := by kernel_rfl
  f6 := ⟨Try.f29.name, by decide, Try.func29.trans (congrArg some (by kernel_rfl))⟩
  f8 := ⟨Try.f47.name, by decide, Try.func47.trans (congrArg some (by kernel_rfl))⟩
  f11 := ⟨Try.f59.name, by decide, Try.func59.trans (congrArg some (by kernel_rfl))⟩
  t0 := Try.underlying0
  a0 := Try.isAgg0
  z0 := Try.sizeOf0
  v0 := Try.zeroValue0
  t24 := Try.underlying76
  a24 := Try.isAgg76
  z24 := Try.sizeOf76
  v24 := Try.zeroValue76
  t26 := Try.underlying3
  a26 := Try.isAgg3
  z26 := Try.sizeOf3
  v26 := Try.zeroValue3
  t28 := Try.underlying79
  a28 := Try.isAgg79
  z28 := Try.sizeOf79
  v28 := Try.zeroValue79
  i26 := by kernel_rfl }
def Try.sort48_ren : Go.Shelf.Ren := ⟨fun | 5 => 48 | 8 => 61 | 7 => 60 | 19 => 76 | 20 => 77 | 10 => 67 | 11 => 68 | 12 => 69 | 13 => 70 | 14 => 71 | 15 => 72 | 16 => 73 | 17 => 74 | 18 => 75 | 30 => 88 | 31 => 89 | 32 => 90 | 33 => 91 | 34 => 92 | 35 => 66 | 40 => 97 | n => n, fun | 23 => 76 | 25 => 3 | 3 => 3 | 32 => 118 | 22 => 76 | 0 => 0 | 44 => 133 | 46 => 135 | 4 => 4 | 36 => 125 | 35 => 124 | 41 => 130 | 5 => 5 | 9 => 9 | 53 => 143 | 57 => 147 | 63 => 151 | 64 => 152 | n => n, fun | n => n⟩
theorem Try.sort48 : Go.Proofs.SlLaysM.n5 Try.prog Try.sort48_ren := {
  mixed := by kernel_rfl
  f5 := ⟨Try.f48.name, by decide, Try.func48.trans (congrArg some (by kernel_rfl))⟩
  f7 := ⟨Try.f60.name, by decide, Try.func60.trans (congrArg some (by kernel_rfl))⟩
  f8 := Try.func61.trans (congrArg some (by kernel_rfl))
  f10 := ⟨Try.f67.name, by decide, Try.func67.trans (congrArg some (by kernel_rfl))⟩
  f11 := ⟨Try.f68.name, by decide, Try.func68.trans (congrArg some (by kernel_rfl))⟩
  f12 := ⟨Try.f69.name, by decide, Try.func69.trans (congrArg some (by kernel_rfl))⟩
  f13 := ⟨Try.f70.name, by decide, Try.func70.trans (congrArg some (by kernel_rfl))⟩
  f14 := ⟨Try.f71.name, by decide, Try.func71.trans (congrArg some (by kernel_rfl))⟩
  f15 := ⟨Try.f72.name, by decide, Try.func72.trans (congrArg some (by kernel_rfl))⟩
  f16 := ⟨Try.f73.name, by decide, Try.func73.trans (congrArg some (by kernel_rfl))⟩
  f17 := ⟨Try.f74.name, by decide, Try.func74.trans (congrArg some (by kernel_rfl))⟩
  f18 := ⟨Try.f75.name, by decide, Try.func75.trans (congrArg some (by kernel_rfl))⟩
  f19 := Try.func76.trans (congrArg some (by kernel_rfl))
  f20 := Try.func77.trans (congrArg some (by kernel_rfl))
  f30 := ⟨Try.f88.name, by decide, Try.func88.trans (congrArg some (by kernel_rfl))⟩
  f31 := Try.func89.trans (congrArg some (by kernel_rfl))
  f32 := Try.func90.trans (congrArg some (by kernel_rfl))
  f33 := ⟨Try.f91.name, by decide, Try.func91.trans (congrArg some (by kernel_rfl))⟩
  f34 := ⟨Try.f92.name, by decide, Try.func92.trans (congrArg some (by kernel_rfl))⟩
  f35 := ⟨Try.f66.name, by decide, Try.func66.trans (congrArg some (by kernel_rfl))⟩
  f40 := ⟨Try.f97.name, by decide, Try.func97.trans (congrArg some (by kernel_rfl))⟩
  t0 := Try.underlying0
  a0 := Try.isAgg0
  z0 := Try.sizeOf0
  v0 := Try.zeroValue0
  t3 := Try.underlying3
  a3 := Try.isAgg3
  z3 := Try.sizeOf3
  v3 := Try.zeroValue3
  t4 := Try.underlying4
  a4 := Try.isAgg4
  z4 := Try.sizeOf4
  v4 := Try.zeroValue4
  t5 := Try.underlying5
  a5 := Try.isAgg5
  z5 := Try.sizeOf5
  v5 := Try.zeroValue5
  t9 := Try.underlying9
  a9 := Try.isAgg9
  z9 := Try.sizeOf9
  v9 := Try.zeroValue9
  t22 := Try.underlying76
  a22 := Try.isAgg76
  z22 := Try.sizeOf76
  v22 := Try.zeroValue76
  t23 := Try.underlying76
  a23 := Try.isAgg76
  z23 := Try.sizeOf76
  v23 := Try.zeroValue76
  t25 := Try.underlying3
  a25 := Try.isAgg3
  z25 := Try.sizeOf3
  v25 := Try.zeroValue3
  t32 := Try.underlying118
  a32 := Try.isAgg118
  z32 := Try.sizeOf118
  v32 := Try.zeroValue118
  t35 := Try.underlying124
  a35 := Try.isAgg124
  z35 := Try.sizeOf124
  v35 := Try.zeroValue124
  t36 := Try.underlying125
  a36 := Try.isAgg125
  z36 := Try.sizeOf125
  v36 := Try.zeroValue125
  t41 := Try.underlying130
  a41 := Try.isAgg130
  z41 := Try.sizeOf130
  v41 := Try.zeroValue130
  t44 := Try.underlying133
  a44 := Try.isAgg133
  z44 := Try.sizeOf133
  v44 := Try.zeroValue133
  t46 := Try.underlying135
  a46 := Try.isAgg135
  z46 := Try.sizeOf135
  v46 := Try.zeroValue135
  t53 := Try.underlying143
  a53 := Try.isAgg143
  z53 := Try.sizeOf143
  v53 := Try.zeroValue143
  t57 := Try.underlying147
  a57 := Try.isAgg147
  z57 := Try.sizeOf147
  v57 := Try.zeroValue147
  t63 := Try.underlying151
  a63 := Try.isAgg151
  z63 := Try.sizeOf151
  v63 := Try.zeroValue151
  t64 := Try.underlying152
  a64 := Try.isAgg152
  z64 := Try.sizeOf152
  v64 := Try.zeroValue152 }
open Go.RowKit Go.Maps Go.Sort in
/-- slices.Sort, inside a fence that asks nothing. -/
theorem Try.sorts29 (m : Nat) : AnyZI.SortsIn Try.prog Try.sorted29_ren Fence.wide m :=
  ⟨fun blk off cap ss W hH hblk hsz => callsIn_wide.2 (AnyM.slices_Sort_int Try.sort48 blk off cap ss W hH hblk hsz),
   fun p cap W => callsIn_wide.2 (AnyM.slices_Sort_int_none Try.sort48 p cap W)⟩
open Go.RowKit Go.Maps Go.Sort in
/-- maps.Keys. -/
theorem Try.mapKeys30 (mb : Option Nat) (W : World) : Calls Try.prog 30 #[.map mb] W fun e w' => e = .returned (.func (.func 49) #[] #[.pointer (some ⟨W.heap.size, 0, none⟩)]) ∧ w' = W.alloc (.cells #[.map mb] 71) :=
  (callsIn_wide (n := 5)).1 (AnyZI.keys_in Try.keys30 Fence.wide 5 trivial rfl mb W)
open Go.RowKit Go.Maps Go.Sort in
/-- slices.Sorted at what maps.Keys handed back. -/
theorem Try.sortedKeys30 {H : Type} (b nn Bm : Nat) (D0 : DataW H) (R : Value → Option (DataW H × List MemPlace)) (w : World) (hm : w.cell? ⟨Bm, 0, none⟩ = some (.map (some b))) (hown : w.ownsMap Try.prog 3 R b nn D0) (hmax : Maps.size D0 ≤ maxLen) (hbytes : Maps.size D0 * 8 ≤ 140737488355328) :
    Calls Try.prog 29 #[.func (.func 49) #[] #[.pointer (some ⟨Bm, 0, none⟩)]] w fun e w' => ∃ (v : Value) (ss : List Int), e = .returned v ∧ ss.Perm (intKeys D0) ∧
      w'.ownsRow w.heap.size 3 1 v ss.length ((ss.mergeSort (fun x y => decide (x ≤ y))).map encZ) ∧ (v = .slice none 0 0 ↔ ss = []) ∧ Below w.heap.size w w' :=
  (callsIn_wide (n := 5)).1 (AnyZI.sorted_in Try.sorted29 Fence.wide 5 trivial trivial trivial trivial rfl (by omega) (Try.sorts29 _) (enters_of Try.func48 (by kernel_rfl) rfl) 49 #[.pointer (some ⟨Bm, 0, none⟩)] trivial (enters_of Try.func49 (by kernel_rfl) rfl) _ _ hmax hbytes _
    (AnyZI.keys_gives (ρ := Try.keys30_ren) { Try.keys30 with } Fence.wide _ trivial rfl (by omega) Bm b nn D0 w (World.block_lt_of_cell? w _ hm) hm hown))
end Go.Proofs
