/- Several texts of the seat in one: MapV, Sorted, Keys. -/
import Derived.Test.YtkpdimbblcmnaaaKBase
import Derived.Maps.OwnOps
import Derived.Maps.OwnSet
import Derived.Maps.Views
import Derived.Shelf.SlGeneric
import Derived.Shelf.SlIterI.Nil
import Derived.Shelf.SortM.Plain
import Derived.Shelf.SortM.SortNone
import Derived.Ground.GgzProg
import Derived.Ground.SlgmProg
import Derived.Test.YtkpdimbblcmnaaaProg
/- Maps that a call makes, as functions from keys to values. No program. -/
namespace Go.Proofs.Ytkpdimbblcmnaaa
open Go.RowKit Go.Maps

/-- How a kind of keys is written: as a value, as a datum; which of them can be keys. -/
structure KeyEnc (P : Program) (k : TypeId) (α : Type) where
  enc : α → Value
  lit : α → Lit
  ok : α → Prop
  keyed : Keyed P k
  key : ∀ a, ok a → keyOf P k (enc a) = some (lit a)
  inj : ∀ a b, ok a → ok b → enc a = enc b → a = b
theorem KeyEnc.lit_inj {P : Program} {k : TypeId} {α : Type} (K : KeyEnc P k α) {a b : α} (ha : K.ok a) (hb : K.ok b) (h : K.lit a = K.lit b) : a = b :=
  K.inj a b ha hb (K.keyed.inj (K.key a ha) (h ▸ K.key b hb))
/-- Every element is held as it is. -/
def hold (v : Value) : Option (DataW Value × List MemPlace) := some (.held v, [])

/-- Block b is a map of at most n entries that reads as f. -/
def VMap {P : Program} {k : TypeId} {α : Type} (K : KeyEnc P k α) (w : World) (b n : Nat) (f : α → Option Value) : Prop :=
  ∃ D : DataW Value, w.ownsMap P k hold b n D ∧ ∀ a, K.ok a → has D (K.lit a) = (f a).isSome ∧ ∀ zd, D.atKey (K.lit a) zd = ((f a).map DataW.held).getD zd
variable {P : Program} {k : TypeId} {α : Type} {K : KeyEnc P k α} {w : World} {b n : Nat} {f : α → Option Value}

theorem VMap.made (K : KeyEnc P k α) (w : World) : VMap K (w.alloc (.map #[] 0)) w.heap.size 0 (fun _ => none) :=
  ⟨.map [], World.ownsMap_made w P k hold, fun _ _ => ⟨rfl, fun _ => rfl⟩⟩
theorem VMap.lt (h : VMap K w b n f) : b < w.heap.size := by obtain ⟨D, h, _⟩ := h; exact h.lt
theorem VMap.alloc (h : VMap K w b n f) (o : Obj) : VMap K (w.alloc o) b n f := by obtain ⟨D, h, h2⟩ := h; exact ⟨D, h.alloc o, h2⟩
theorem VMap.drewN (h : VMap K w b n f) (q : Nat) : VMap K (w.drewN q) b n f := by obtain ⟨D, h, h2⟩ := h; exact ⟨D, h, h2⟩
theorem VMap.kept {w' : World} {row : Option Nat} (h : VMap K w b n f) (hg : w.grownBy w' row) (hne : some b ≠ row) : VMap K w' b n f := by obtain ⟨D, h, h2⟩ := h; exact ⟨D, h.kept hg hne, h2⟩
theorem VMap.keeps {w' : World} (h : VMap K w b n f) (hk : Keeps w w') : VMap K w' b n f := by
  obtain ⟨D, ⟨es, clock, hb, F, hs, hD⟩, h2⟩ := h
  exact ⟨D, ⟨es, clock, (hk.block b (Array.getElem?_eq_some_iff.1 hb).1).trans hb, F, hs, hD⟩, h2⟩
theorem VMap.mono (h : VMap K w b n f) {n' : Nat} (hn : n ≤ n') : VMap K w b n' f := by obtain ⟨D, h, h2⟩ := h; exact ⟨D, h.mono hn, h2⟩
theorem VMap.congr (h : VMap K w b n f) {g : α → Option Value} (e : ∀ a, K.ok a → f a = g a) : VMap K w b n g := by
  obtain ⟨D, h, h2⟩ := h
  exact ⟨D, h, fun a ha => by rw [← e a ha]; exact h2 a ha⟩

/-- 'm[x]'. -/
theorem VMap.look {t e : TypeId} (h : VMap K w b n f) (ht : P.underlying t = some (.map k e)) {z : Value} (hz : ∀ w, (zeroValue e).run P w = .ok z w) {a : α} (ha : K.ok a) :
    ∀ w', w' = w → (Instr.lookup t (.map (some b)) (K.enc a) false).run P w' = .ok ((f a).getD z) w' := by
  rintro w' rfl
  obtain ⟨D, ⟨es, clock, hb, F, _, rfl⟩, h2⟩ := h
  obtain ⟨h3, h4⟩ := h2 a ha
  rcases Maps.fit_look false K.keyed ht (hz w') hb F (K.key a ha) with ⟨hrun, _, hat⟩ | ⟨e0, y, _, _, hrun, hRv, hat, _⟩
  · have hn : f a = none := by
      cases hf : f a with
      | none => rfl
      | some u =>
        rw [hf] at h4
        have e1 := h4 DataW.nil
        rw [hat] at e1
        cases e1
    rw [hn]; simpa using hrun
  · have e1 := hat DataW.nil
    cases hRv
    rw [h4] at e1
    cases hf : f a with
    | none => rw [hf] at e1; cases e1
    | some u =>
      rw [hf] at e1
      simp only [Option.map_some, Option.getD_some, DataW.held.injEq] at e1
      subst e1
      simpa using hrun
/-- 'v, ok := m[x]'. -/
theorem VMap.lookOk {t e : TypeId} (h : VMap K w b n f) (ht : P.underlying t = some (.map k e)) {z : Value} (hz : ∀ w, (zeroValue e).run P w = .ok z w) {a : α} (ha : K.ok a) :
    ∀ w', w' = w → (Instr.lookup t (.map (some b)) (K.enc a) true).run P w' = .ok (.tuple #[(f a).getD z, .bool (f a).isSome]) w' := by
  rintro w' rfl
  obtain ⟨D, ⟨es, clock, hb, F, _, rfl⟩, h2⟩ := h
  obtain ⟨h3, h4⟩ := h2 a ha
  rcases Maps.fit_look true K.keyed ht (hz w') hb F (K.key a ha) with ⟨hrun, _, hat⟩ | ⟨e0, y, _, _, hrun, hRv, hat, _⟩
  · have hn : f a = none := by
      cases hf : f a with
      | none => rfl
      | some u =>
        rw [hf] at h4
        have e1 := h4 DataW.nil
        rw [hat] at e1
        cases e1
    rw [hn]; simpa using hrun
  · have e1 := hat DataW.nil
    cases hRv
    rw [h4] at e1
    cases hf : f a with
    | none => rw [hf] at e1; cases e1
    | some u =>
      rw [hf] at e1
      simp only [Option.map_some, Option.getD_some, DataW.held.injEq] at e1
      subst e1
      simpa using hrun
/-- 'm[x] = v'. -/
theorem VMap.store {t e : TypeId} (h : VMap K w b n f) (ht : P.underlying t = some (.map k e)) (hn : n < maxLen) {a : α} (ha : K.ok a) (v : Value) {g : α → Option Value} (hg1 : g a = some v) (hg2 : ∀ c, K.ok c → c ≠ a → g c = f c) :
    ∃ w', (Instr.mapUpdate t (.map (some b)) (K.enc a) v).run P w = .ok () w' ∧ VMap K w' b (n + 1) g ∧ w.grownBy w' (some b) := by
  obtain ⟨D, h, h2⟩ := h
  obtain ⟨w', hr, ho, hgr⟩ := h.update K.keyed ht hn (K.key a ha) (show hold v = some (.held v, []) from rfl)
  have hM : IsMap D := by obtain ⟨es, clock, _, _, _, rfl⟩ := h; exact ⟨_, rfl⟩
  have hK := K.keyed.key (K.key a ha)
  refine ⟨w', hr, ⟨_, ho, fun c hc => ?_⟩, hgr⟩
  obtain ⟨h3, h4⟩ := h2 c hc
  by_cases e : c = a
  · subst e
    rw [hg1]
    exact ⟨has_put_same hM hK _, fun zd => atKey_put_same hM hK _ zd⟩
  · rw [hg2 c hc e]
    have hne : K.lit c ≠ K.lit a := fun he => e (K.lit_inj hc ha he)
    exact ⟨(has_put_other hne _).trans h3, fun zd => (atKey_put_other hne _ zd).trans (h4 zd)⟩
/-- The store at its operation. -/
theorem wpList_vstore {w : World} {ops : Array Oper} {rest : List Oper} {o : Oper} {a : Act} {Q : Exit → Act → World → Prop} (hgd : o.guard = none) (m x v : Operand) (t : TypeId) (hop : o.op = Op.mapUpdate t m x v) {e : TypeId} (ht : P.underlying t = some (.map k e))
    (b n : Nat) (hm : a.eval m = .map (some b)) (h : VMap K w b n f) (hn : n < maxLen) (c : α) (hc : K.ok c) (hx : a.eval x = K.enc c) (u : Value) (hv : a.eval v = u) (g : α → Option Value) (hg1 : g c = some u) (hg2 : ∀ d, K.ok d → d ≠ c → g d = f d)
    (hK : ∀ w', VMap K w' b (n + 1) g → w.grownBy w' (some b) → wpList P ops Q rest (a.put o.dst undef) w') : wpList P ops Q (o :: rest) a w := by
  refine wpList_plain hgd fun KK hKK => ?_
  obtain ⟨w', hr, h1, h2⟩ := h.store ht hn hc u hg1 hg2
  unfold Oper.wp
  simp [execOp, hop, hm, hx, hv, hr, Result.andThen]
  exact hKK _ _ (hK w' h1 h2)
end Go.Proofs.Ytkpdimbblcmnaaa

/-
  DERIVED: THE SHELF's CONTRACTS AT THIS DUMP, IN PLAIN WORDS (tools/lay-plain.mjs out of 'TrySorted.lean', which tools/lay-shelf.mjs wrote): THE SAME DECLARATIONS UNDER THE SAME NAMES: 'import', 'namespace', 'open', 'def', 'theorem' AND NOTHING ELSE: no command of the shelf's: FOR A HAND-IN. Each laying: the table of numbers ('.._ren') and one theorem, a field a fact of the dump's own or the kernel's comparison; each contract: ONE APPLICATION.
-/
namespace Go.Proofs
open Go.Shelf
def Try.keys61_ren : Go.Shelf.Ren := ⟨fun | 7 => 61 | 10 => 66 | n => n, fun | 23 => 91 | 26 => 3 | 3 => 4 | 28 => 72 | 0 => 0 | 27 => 71 | 33 => 55 | 4 => 4 | n => n, fun | n => n⟩
theorem Try.keys61 : Go.Proofs.SlLaysZI.n7 Try.prog Try.keys61_ren := {
  mixed := by kernel_rfl
  f7 := ⟨Try.f61.name, by decide, Try.func61.trans (congrArg some (by kernel_rfl))⟩
  f10 := ⟨Try.f66.name, by decide, Try.func66.trans (congrArg some (by kernel_rfl))⟩
  t0 := Try.underlying0
  a0 := Try.isAgg0
  z0 := Try.sizeOf0
  v0 := Try.zeroValue0
  t4 := Try.underlying4
  a4 := Try.isAgg4
  z4 := Try.sizeOf4
  v4 := Try.zeroValue4
  t23 := Try.underlying91
  a23 := Try.isAgg91
  z23 := Try.sizeOf91
  v23 := Try.zeroValue91
  t26 := Try.underlying3
  a26 := Try.isAgg3
  z26 := Try.sizeOf3
  v26 := Try.zeroValue3
  t27 := Try.underlying71
  a27 := Try.isAgg71
  z27 := Try.sizeOf71
  v27 := Try.zeroValue71
  t28 := Try.underlying72
  a28 := Try.isAgg72
  z28 := Try.sizeOf72
  v28 := Try.zeroValue72
  t33 := Try.underlying55
  a33 := Try.isAgg55
  z33 := Try.sizeOf55
  v33 := Try.zeroValue55 }
def Try.sorted60_ren : Go.Shelf.Ren := ⟨fun | 6 => 60 | 8 => 64 | 9 => 65 | 11 => 68 | 13 => 70 | 12 => 69 | 23 => 80 | 24 => 81 | 14 => 71 | 15 => 72 | 16 => 73 | 17 => 74 | 18 => 75 | 19 => 76 | 20 => 77 | 21 => 78 | 22 => 79 | 25 => 82 | 26 => 83 | 27 => 84 | 28 => 85 | 29 => 86 | 30 => 87 | 31 => 88 | n => n, fun | 26 => 3 | 28 => 72 | 24 => 35 | 0 => 0 | 3 => 3 | 37 => 103 | 48 => 114 | 50 => 116 | 4 => 4 | 40 => 106 | 39 => 105 | 45 => 111 | 5 => 5 | 9 => 9 | 51 => 117 | 55 => 121 | 57 => 123 | 58 => 124 | 33 => 55 | n => n, fun | n => n⟩
theorem Try.sorted60 : Go.Proofs.SlLaysZI.n6 Try.prog Try.sorted60_ren := {
  mixed := by kernel_rfl
  f6 := ⟨Try.f60.name, by decide, Try.func60.trans (congrArg some (by kernel_rfl))⟩
  f8 := ⟨Try.f64.name, by decide, Try.func64.trans (congrArg some (by kernel_rfl))⟩
  f11 := ⟨Try.f68.name, by decide, Try.func68.trans (congrArg some (by kernel_rfl))⟩
  t0 := Try.underlying0
  a0 := Try.isAgg0
  z0 := Try.sizeOf0
  v0 := Try.zeroValue0
  t24 := Try.underlying35
  a24 := Try.isAgg35
  z24 := Try.sizeOf35
  v24 := Try.zeroValue35
  t26 := Try.underlying3
  a26 := Try.isAgg3
  z26 := Try.sizeOf3
  v26 := Try.zeroValue3
  t28 := Try.underlying72
  a28 := Try.isAgg72
  z28 := Try.sizeOf72
  v28 := Try.zeroValue72
  i26 := by kernel_rfl }
def Try.sort65_ren : Go.Shelf.Ren := ⟨fun | 5 => 65 | 8 => 70 | 7 => 69 | 19 => 80 | 20 => 81 | 10 => 71 | 11 => 72 | 12 => 73 | 13 => 74 | 14 => 75 | 15 => 76 | 16 => 77 | 17 => 78 | 18 => 79 | 30 => 82 | 31 => 83 | 32 => 84 | 33 => 85 | 34 => 86 | 35 => 87 | 40 => 88 | n => n, fun | 23 => 35 | 25 => 3 | 3 => 3 | 32 => 103 | 22 => 35 | 0 => 0 | 44 => 114 | 46 => 116 | 4 => 4 | 36 => 106 | 35 => 105 | 41 => 111 | 5 => 5 | 9 => 9 | 53 => 117 | 57 => 121 | 63 => 123 | 64 => 124 | n => n, fun | n => n⟩
theorem Try.sort65 : Go.Proofs.SlLaysM.n5 Try.prog Try.sort65_ren := {
  mixed := by kernel_rfl
  f5 := ⟨Try.f65.name, by decide, Try.func65.trans (congrArg some (by kernel_rfl))⟩
  f7 := ⟨Try.f69.name, by decide, Try.func69.trans (congrArg some (by kernel_rfl))⟩
  f8 := Try.func70.trans (congrArg some (by kernel_rfl))
  f10 := ⟨Try.f71.name, by decide, Try.func71.trans (congrArg some (by kernel_rfl))⟩
  f11 := ⟨Try.f72.name, by decide, Try.func72.trans (congrArg some (by kernel_rfl))⟩
  f12 := ⟨Try.f73.name, by decide, Try.func73.trans (congrArg some (by kernel_rfl))⟩
  f13 := ⟨Try.f74.name, by decide, Try.func74.trans (congrArg some (by kernel_rfl))⟩
  f14 := ⟨Try.f75.name, by decide, Try.func75.trans (congrArg some (by kernel_rfl))⟩
  f15 := ⟨Try.f76.name, by decide, Try.func76.trans (congrArg some (by kernel_rfl))⟩
  f16 := ⟨Try.f77.name, by decide, Try.func77.trans (congrArg some (by kernel_rfl))⟩
  f17 := ⟨Try.f78.name, by decide, Try.func78.trans (congrArg some (by kernel_rfl))⟩
  f18 := ⟨Try.f79.name, by decide, Try.func79.trans (congrArg some (by kernel_rfl))⟩
  f19 := Try.func80.trans (congrArg some (by kernel_rfl))
  f20 := Try.func81.trans (congrArg some (by kernel_rfl))
  f30 := ⟨Try.f82.name, by decide, Try.func82.trans (congrArg some (by kernel_rfl))⟩
  f31 := Try.func83.trans (congrArg some (by kernel_rfl))
  f32 := Try.func84.trans (congrArg some (by kernel_rfl))
  f33 := ⟨Try.f85.name, by decide, Try.func85.trans (congrArg some (by kernel_rfl))⟩
  f34 := ⟨Try.f86.name, by decide, Try.func86.trans (congrArg some (by kernel_rfl))⟩
  f35 := ⟨Try.f87.name, by decide, Try.func87.trans (congrArg some (by kernel_rfl))⟩
  f40 := ⟨Try.f88.name, by decide, Try.func88.trans (congrArg some (by kernel_rfl))⟩
  t0 := Try.underlying0
  a0 := Try.isAgg0
  z0 := Try.sizeOf0
  v0 := Try.zeroValue0
  t3 := Try.underlying3
  a3 := Try.isAgg3
  z3 := Try.sizeOf3
  v3 := Try.zeroValue3
  t4 := Try.underlying4
  a4 := Try.isAgg4
  z4 := Try.sizeOf4
  v4 := Try.zeroValue4
  t5 := Try.underlying5
  a5 := Try.isAgg5
  z5 := Try.sizeOf5
  v5 := Try.zeroValue5
  t9 := Try.underlying9
  a9 := Try.isAgg9
  z9 := Try.sizeOf9
  v9 := Try.zeroValue9
  t22 := Try.underlying35
  a22 := Try.isAgg35
  z22 := Try.sizeOf35
  v22 := Try.zeroValue35
  t23 := Try.underlying35
  a23 := Try.isAgg35
  z23 := Try.sizeOf35
  v23 := Try.zeroValue35
  t25 := Try.underlying3
  a25 := Try.isAgg3
  z25 := Try.sizeOf3
  v25 := Try.zeroValue3
  t32 := Try.underlying103
  a32 := Try.isAgg103
  z32 := Try.sizeOf103
  v32 := Try.zeroValue103
  t35 := Try.underlying105
  a35 := Try.isAgg105
  z35 := Try.sizeOf105
  v35 := Try.zeroValue105
  t36 := Try.underlying106
  a36 := Try.isAgg106
  z36 := Try.sizeOf106
  v36 := Try.zeroValue106
  t41 := Try.underlying111
  a41 := Try.isAgg111
  z41 := Try.sizeOf111
  v41 := Try.zeroValue111
  t44 := Try.underlying114
  a44 := Try.isAgg114
  z44 := Try.sizeOf114
  v44 := Try.zeroValue114
  t46 := Try.underlying116
  a46 := Try.isAgg116
  z46 := Try.sizeOf116
  v46 := Try.zeroValue116
  t53 := Try.underlying117
  a53 := Try.isAgg117
  z53 := Try.sizeOf117
  v53 := Try.zeroValue117
  t57 := Try.underlying121
  a57 := Try.isAgg121
  z57 := Try.sizeOf121
  v57 := Try.zeroValue121
  t63 := Try.underlying123
  a63 := Try.isAgg123
  z63 := Try.sizeOf123
  v63 := Try.zeroValue123
  t64 := Try.underlying124
  a64 := Try.isAgg124
  z64 := Try.sizeOf124
  v64 := Try.zeroValue124 }
open Go.RowKit Go.Maps Go.Sort in
/-- slices.Sort, inside a fence that asks nothing. -/
theorem Try.sorts60 (m : Nat) : AnyZI.SortsIn Try.prog Try.sorted60_ren Fence.wide m :=
  ⟨fun blk off cap ss W hH hblk hsz => callsIn_wide.2 (AnyM.slices_Sort_int Try.sort65 blk off cap ss W hH hblk hsz),
   fun p cap W => callsIn_wide.2 (AnyM.slices_Sort_int_none Try.sort65 p cap W)⟩
open Go.RowKit Go.Maps Go.Sort in
/-- maps.Keys. -/
theorem Try.mapKeys61 (mb : Option Nat) (W : World) : Calls Try.prog 61 #[.map mb] W fun e w' => e = .returned (.func (.func 66) #[] #[.pointer (some ⟨W.heap.size, 0, none⟩)]) ∧ w' = W.alloc (.cells #[.map mb] 91) :=
  (callsIn_wide (n := 5)).1 (AnyZI.keys_in Try.keys61 Fence.wide 5 trivial rfl mb W)
open Go.RowKit Go.Maps Go.Sort in
/-- slices.Sorted at what maps.Keys handed back. -/
theorem Try.sortedKeys61 {H : Type} (b nn Bm : Nat) (D0 : DataW H) (R : Value → Option (DataW H × List MemPlace)) (w : World) (hm : w.cell? ⟨Bm, 0, none⟩ = some (.map (some b))) (hown : w.ownsMap Try.prog 3 R b nn D0) (hmax : Maps.size D0 ≤ maxLen) (hbytes : Maps.size D0 * 8 ≤ 140737488355328) :
    Calls Try.prog 60 #[.func (.func 66) #[] #[.pointer (some ⟨Bm, 0, none⟩)]] w fun e w' => ∃ (v : Value) (ss : List Int), e = .returned v ∧ ss.Perm (intKeys D0) ∧
      w'.ownsRow w.heap.size 3 1 v ss.length ((ss.mergeSort (fun x y => decide (x ≤ y))).map encZ) ∧ (v = .slice none 0 0 ↔ ss = []) ∧ Below w.heap.size w w' :=
  (callsIn_wide (n := 5)).1 (AnyZI.sorted_in Try.sorted60 Fence.wide 5 trivial trivial trivial trivial rfl (by omega) (Try.sorts60 _) (enters_of Try.func65 (by kernel_rfl) rfl) 66 #[.pointer (some ⟨Bm, 0, none⟩)] trivial (enters_of Try.func66 (by kernel_rfl) rfl) _ _ hmax hbytes _
    (AnyZI.keys_gives (ρ := Try.keys61_ren) { Try.keys61 with } Fence.wide _ trivial rfl (by omega) Bm b nn D0 w (World.block_lt_of_cell? w _ hm) hm hown))
end Go.Proofs

/- Maps with int keys; their keys in order. -/
namespace Go.Proofs.Ytkpdimbblcmnaaa
open Go.RowKit Go.Maps

/-- An int of 64 bits. -/
def I64 (x : Int) : Prop := -9223372036854775808 ≤ x ∧ x ≤ 9223372036854775807
theorem wf64 {x : Int} : (Lit.int .i64 x).wf = true ↔ I64 x := by
  unfold I64
  simp [Lit.wf, IntKind.min, IntKind.max, IntKind.signed, IntKind.bits]
def intK : KeyEnc Try.prog 3 Int where
  enc := .int .i64
  lit := .int .i64
  ok := I64
  keyed := int_keyed Try.underlying3
  key a ha := keyOf_int_mk Try.underlying3 (wf64.2 ha)
  inj a b _ _ h := by simpa using h

/-- In ascending order, none twice. -/
def Asc (l : List Int) : Prop := l.Pairwise (· < ·)
theorem Asc.nodup {l : List Int} (h : Asc l) : l.Nodup := h.imp fun h e => by omega
theorem Asc.eq {l m : List Int} (hl : Asc l) (hm : Asc m) (h : ∀ x, x ∈ l ↔ x ∈ m) : l = m := by
  refine List.Perm.eq_of_pairwise (le := fun a b => a < b) (fun a b _ _ h1 h2 => by omega) hl hm ((List.perm_ext_iff_of_nodup hl.nodup hm.nodup).2 h)

theorem VMap.keys {w : World} {b n : Nat} {f : Int → Option Value} (h : VMap intK w b n f) : ∃ D : DataW Value, w.ownsMap Try.prog 3 hold b n D ∧ Maps.size D ≤ n ∧ (intKeys D).Nodup ∧ ∀ x, x ∈ intKeys D ↔ (I64 x ∧ (f x).isSome = true) := by
  obtain ⟨D, ho, h2⟩ := h
  have hw := intKeys_wf ho Try.underlying3
  obtain ⟨es, hD, hpw, hkl⟩ := ho.entries intK.keyed
  obtain ⟨es', hD', hko⟩ := ho.keysOf
  have hsz : Maps.size D ≤ n := by
    obtain ⟨es0, clock, _, _, hs, rfl⟩ := ho
    show ((es0.toList.map _).foldr DataW.insert []).length ≤ n
    rw [length_sorted]
    simpa using hs
  subst hD
  have hki : ∀ p ∈ es, ∃ x, p.1 = .int .i64 x := fun p hp => by
    cases hD'
    obtain ⟨v, hv⟩ := hko p hp
    obtain ⟨x, _, hx, _⟩ := Maps.keyOf_i64 Try.underlying3 hv
    exact ⟨x, hx⟩
  refine ⟨_, ho, hsz, ?_, fun x => ?_⟩
  · show (es.map fun p => Go.intOf p.1).Nodup
    refine List.pairwise_map.2 (hpw.imp_of_mem fun {p q} hp' hq' hne e => hne ?_)
    obtain ⟨a, ha⟩ := hki p hp'
    obtain ⟨c, hc⟩ := hki q hq'
    rw [ha, hc] at e ⊢
    exact congrArg _ e
  · have hmem : x ∈ intKeys (.map es) ↔ has (.map es) (.int .i64 x) = true := by
      rw [has_eq, List.any_eq_true]
      show x ∈ es.map (fun p => Go.intOf p.1) ↔ _
      rw [List.mem_map]
      constructor
      · rintro ⟨p, hp', rfl⟩
        obtain ⟨a, ha⟩ := hki p hp'
        exact ⟨p, hp', by rw [ha]; simp [Lit.sameKey, Go.intOf]⟩
      · rintro ⟨p, hp', hs⟩
        obtain ⟨a, ha⟩ := hki p hp'
        rw [ha] at hs
        exact ⟨p, hp', by rw [ha]; simpa [Lit.sameKey, Go.intOf] using hs⟩
    constructor
    · intro hx
      have hx1 := wf64.1 (hw x hx)
      exact ⟨hx1, by rw [← (h2 x hx1).1]; exact hmem.1 hx⟩
    · rintro ⟨hx1, hx2⟩
      rw [← (h2 x hx1).1] at hx2
      exact hmem.2 hx2

/-- What the sorted keys are. -/
def KeysAre (f : Int → Option Value) (xs : List Int) : Prop := Asc xs ∧ ∀ x, x ∈ xs ↔ (I64 x ∧ (f x).isSome = true)
theorem sorted_keys {D : DataW Value} {f : Int → Option Value} {ss : List Int} (hn : (intKeys D).Nodup) (hm : ∀ x, x ∈ intKeys D ↔ (I64 x ∧ (f x).isSome = true)) (hp : ss.Perm (intKeys D)) : KeysAre f (ss.mergeSort (fun x y => decide (x ≤ y))) := by
  have tr : ∀ a b c : Int, decide (a ≤ b) = true → decide (b ≤ c) = true → decide (a ≤ c) = true := fun a b c h1 h2 => by simp only [decide_eq_true_eq] at *; omega
  have to : ∀ a b : Int, (decide (a ≤ b) || decide (b ≤ a)) = true := fun a b => by simp only [Bool.or_eq_true, decide_eq_true_eq]; omega
  have hs := List.pairwise_mergeSort tr to ss
  have hpp : (ss.mergeSort (fun x y => decide (x ≤ y))).Perm (intKeys D) := (List.mergeSort_perm ss _).trans hp
  have hnd : (ss.mergeSort (fun x y => decide (x ≤ y))).Nodup := hpp.nodup_iff.2 hn
  refine ⟨?_, fun x => by rw [hpp.mem_iff]; exact hm x⟩
  refine (List.pairwise_and_iff.2 ⟨hs, hnd⟩).imp fun {a b} h => ?_
  have := h.1
  simp only [decide_eq_true_eq] at this
  have := h.2
  omega
/-- A slice of ints that is nil just where it is empty. -/
def OutK (w : World) (f : Int → Option Value) (e : Ending) (w' : World) : Prop := ∃ v xs, e = .returned v ∧ IntL w' v xs ∧ KeysAre f xs ∧ Keeps w w'
theorem sortedB_any (b n Bm : Nat) (f : Int → Option Value) (w : World) (hm : w.cell? ⟨Bm, 0, none⟩ = some (.map (some b))) (h : VMap intK w b n f) (hn : n ≤ 1000000) :
    Calls Try.prog 60 #[.func (.func 66) #[] #[.pointer (some ⟨Bm, 0, none⟩)]] w (OutK w f) := by
  obtain ⟨D, ho, hsz, hnd, hmem⟩ := h.keys
  refine (Try.sortedKeys61 b n Bm D hold w hm ho (by unfold maxLen; omega) (by omega)).mono fun e w' h => ?_
  obtain ⟨v, ss, rfl, hp, hrow, _, hb⟩ := h
  refine ⟨v, _, rfl, ?_, sorted_keys hnd hmem hp, hb⟩
  have hl : (ss.mergeSort (fun x y => decide (x ≤ y))).length = ss.length := List.length_mergeSort _
  exact IntL.own (by rw [hl]; exact hrow)
theorem keysB_any (mb : Option Nat) (w : World) : Calls Try.prog 61 #[.map mb] w fun e w' => e = .returned (.func (.func 66) #[] #[.pointer (some ⟨w.heap.size, 0, none⟩)]) ∧ w.alloc (.cells #[.map mb] 91) = w' :=
  (Try.mapKeys61 mb w).mono fun _ _ h => ⟨h.1, h.2.symm⟩
end Go.Proofs.Ytkpdimbblcmnaaa

