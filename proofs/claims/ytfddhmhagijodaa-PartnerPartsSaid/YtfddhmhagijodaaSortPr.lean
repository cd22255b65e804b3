/-
  DERIVED: THE SHELF's CONTRACTS AT THIS DUMP, IN PLAIN WORDS (tools/lay-plain.mjs out of 'TrySortPr.lean', which tools/lay-shelf.mjs wrote): THE SAME DECLARATIONS UNDER THE SAME NAMES: 'import', 'namespace', 'open', 'def', 'theorem' AND NOTHING ELSE: no command of the shelf's: FOR A HAND-IN. Each laying: the table of numbers ('.._ren') and one theorem, a field a fact of the dump's own or the kernel's comparison; each contract: ONE APPLICATION.
-/
import Derived.Shelf.SlGeneric
import Derived.Shelf.SlSortCmp.WholeK
import Derived.Ground.SlsfProg
import Derived.Test.YtfddhmhagijodaaProg
namespace Go.Proofs
open Go.Shelf
def Try.sortPr_ren : Go.Shelf.Ren := ⟨fun | 6 => 54 | 15 => 61 | 14 => 65 | 28 => 76 | 29 => 77 | 20 => 80 | 21 => 81 | 22 => 82 | 23 => 83 | 24 => 84 | 25 => 85 | 26 => 86 | 27 => 87 | 46 => 94 | 47 => 89 | 48 => 90 | 49 => 95 | 50 => 96 | 57 => 99 | n => n, fun | 22 => 64 | 24 => 66 | 25 => 99 | 3 => 3 | 39 => 118 | 0 => 0 | 53 => 133 | 55 => 135 | 4 => 4 | 46 => 125 | 45 => 124 | 50 => 130 | 5 => 5 | 9 => 9 | 66 => 143 | 70 => 147 | 76 => 151 | 77 => 152 | n => n, fun | n => n⟩
theorem Try.sortPr : Go.Proofs.SlLaysF0.n6 Try.prog Try.sortPr_ren := {
  mixed := by kernel_rfl
  f6 := ⟨Try.f54.name, by decide, Try.func54.trans (congrArg some (by kernel_rfl))⟩
  f14 := ⟨Try.f65.name, by decide, Try.func65.trans (congrArg some (by kernel_rfl))⟩
  f15 := Try.func61.trans (congrArg some (by kernel_rfl))
  f20 := ⟨Try.f80.name, by decide, Try.func80.trans (congrArg some (by kernel_rfl))⟩
  f21 := ⟨Try.f81.name, by decide, Try.func81.trans (congrArg some (by kernel_rfl))⟩
  f22 := ⟨Try.f82.name, by decide, Try.func82.trans (congrArg some (by kernel_rfl))⟩
  f23 := ⟨Try.f83.name, by decide, Try.func83.trans (congrArg some (by kernel_rfl))⟩
  f24 := ⟨Try.f84.name, by decide, Try.func84.trans (congrArg some (by kernel_rfl))⟩
  f25 := ⟨Try.f85.name, by decide, Try.func85.trans (congrArg some (by kernel_rfl))⟩
  f26 := ⟨Try.f86.name, by decide, Try.func86.trans (congrArg some (by kernel_rfl))⟩
  f27 := ⟨Try.f87.name, by decide, Try.func87.trans (congrArg some (by kernel_rfl))⟩
  f28 := Try.func76.trans (congrArg some (by kernel_rfl))
  f29 := Try.func77.trans (congrArg some (by kernel_rfl))
  f46 := ⟨Try.f94.name, by decide, Try.func94.trans (congrArg some (by kernel_rfl))⟩
  f47 := Try.func89.trans (congrArg some (by kernel_rfl))
  f48 := Try.func90.trans (congrArg some (by kernel_rfl))
  f49 := ⟨Try.f95.name, by decide, Try.func95.trans (congrArg some (by kernel_rfl))⟩
  f50 := ⟨Try.f96.name, by decide, Try.func96.trans (congrArg some (by kernel_rfl))⟩
  f57 := ⟨Try.f99.name, by decide, Try.func99.trans (congrArg some (by kernel_rfl))⟩
  t0 := Try.underlying0
  a0 := Try.isAgg0
  z0 := Try.sizeOf0
  v0 := Try.zeroValue0
  t3 := Try.underlying3
  a3 := Try.isAgg3
  z3 := Try.sizeOf3
  v3 := Try.zeroValue3
  t4 := Try.underlying4
  a4 := Try.isAgg4
  z4 := Try.sizeOf4
  v4 := Try.zeroValue4
  t5 := Try.underlying5
  a5 := Try.isAgg5
  z5 := Try.sizeOf5
  v5 := Try.zeroValue5
  t9 := Try.underlying9
  a9 := Try.isAgg9
  z9 := Try.sizeOf9
  v9 := Try.zeroValue9
  t22 := Try.underlying64
  a22 := Try.isAgg64
  z22 := Try.sizeOf64
  v22 := Try.zeroValue64
  t25 := Try.underlying99
  a25 := Try.isAgg99
  z25 := Try.sizeOf99
  v25 := Try.zeroValue99
  t39 := Try.underlying118
  a39 := Try.isAgg118
  z39 := Try.sizeOf118
  v39 := Try.zeroValue118
  t45 := Try.underlying124
  a45 := Try.isAgg124
  z45 := Try.sizeOf124
  v45 := Try.zeroValue124
  t46 := Try.underlying125
  a46 := Try.isAgg125
  z46 := Try.sizeOf125
  v46 := Try.zeroValue125
  t50 := Try.underlying130
  a50 := Try.isAgg130
  z50 := Try.sizeOf130
  v50 := Try.zeroValue130
  t53 := Try.underlying133
  a53 := Try.isAgg133
  z53 := Try.sizeOf133
  v53 := Try.zeroValue133
  t55 := Try.underlying135
  a55 := Try.isAgg135
  z55 := Try.sizeOf135
  v55 := Try.zeroValue135
  t66 := Try.underlying143
  a66 := Try.isAgg143
  z66 := Try.sizeOf143
  v66 := Try.zeroValue143
  t70 := Try.underlying147
  a70 := Try.isAgg147
  z70 := Try.sizeOf147
  v70 := Try.zeroValue147
  t76 := Try.underlying151
  a76 := Try.isAgg151
  z76 := Try.sizeOf151
  v76 := Try.zeroValue151
  t77 := Try.underlying152
  a77 := Try.isAgg152
  z77 := Try.sizeOf152
  v77 := Try.zeroValue152 }
end Go.Proofs
