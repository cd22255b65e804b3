/- Walks and plain facts that the claim rests on (Awk, LawICf, IOrP). No condition. -/
import Derived.Test.YtoaidbhiciaeaaaGreatOr33
import Derived.Test.YtoaidbhiciaeaaaGreatOr32
import Derived.Lib.OwnKind
section
namespace Go.Proofs.YtoaidbhiciaeaaaGreat
open Go.RowKit
set_option linter.unusedSimpArgs false
set_option linter.unusedVariables false
theorem pstS_lit (w : World) : PsV ((w.alloc (.cells #[.int .i64 1100, .int .i64 (-100), .int .i64 2000, .int .i64 98, .int .i64 5600, .int .i64 2] 63)).alloc (.cells #[.int .i64 3, .int .i64 0, .int .i64 3, .int .i64 0, .slice (some ⟨w.heap.size, 0, none⟩) 3 3] 59)) pstS (.slice (some ⟨w.heap.size + 1, 0, none⟩) 1 1) := by
  have h1 := Sl.lit w 2 3 [.int .i64 1100, .int .i64 (-100), .int .i64 2000, .int .i64 98, .int .i64 5600, .int .i64 2] 63 rfl (by omega)
  have h2 := Sl.lit (w.alloc (.cells #[.int .i64 1100, .int .i64 (-100), .int .i64 2000, .int .i64 98, .int .i64 5600, .int .i64 2] 63)) 5 1 [.int .i64 3, .int .i64 0, .int .i64 3, .int .i64 0, .slice (some ⟨w.heap.size, 0, none⟩) 3 3] 59 rfl (by omega)
  rw [World.size_alloc] at h2
  refine ⟨[⟨⟨3, 0, 3, 0, [⟨1100, -100⟩, ⟨2000, 98⟩, ⟨5600, 2⟩]⟩, some ⟨w.heap.size, 0, none⟩, 3, w.heap.size⟩], _, 1, _, rfl, h2, fun e he => ?_, rfl⟩
  rw [List.mem_singleton] at he
  subst he
  exact Sl.keeps h1 ((Keeps.refl _).alloc _)
theorem thereZ (w : World) : (w.alloc (.cells #[.string ⟨#[]⟩, .int .i64 0, .int .i64 0, .int .i64 0, .slice none 0 0, .int .i64 0, .int .i64 0, .int .i64 0, .int .i64 0, .int .i64 0, .int .i64 0, .int .i64 0, .int .i64 0, .int .i64 0, .int .i64 0, .int .i64 0, .int .i64 0, .int .i64 0, .int .i64 0, .int .i64 0, .slice none 0 0, .slice none 0 0, .slice none 0 0, .slice none 0 0, .slice none 0 0, .slice none 0 0, .string ⟨#[]⟩] 36)).there w.heap.size 0 27 := by
  have h := there_newP w 36 zB
  have hl : zB.length = 27 := rfl
  rw [hl] at h
  exact h
set_option maxRecDepth 100000 in
set_option maxHeartbeats 8000000 in
theorem awake_any (w : World) : Calls Tryz.prog 9 #[] w fun e w' => e = .returned (.bool true) ∧ Keeps w w' := by
  go_enter Tryz.func9, Tryz.ntmps9
  go_upto_region 2 with (first | (go_at_call 22; (refine (example_any _).mono ?_); rintro e1 w1 ⟨bv, l, q, r, t, ai, ci, bi, rfl, hB, hI, hk1⟩; have HB1 := Lib.hid hB; have HI1 := Lib.hid hI; have K1 := Lib.hid hk1; have hbl := hB.bks.len; have HBL := Lib.hid hbl; have HON := Lib.hid hB.bks.one; clear hB hI hk1 hbl) | (refine wpList_store_mid rfl 36 _ _ rfl w1.heap.size 0 bv.toArray rfl rfl (by have h := thereZ w1; rw [← HBL.out] at h; exact h) (by rw [List.size_toArray, HBL.out]; exact booksSize) (all_oneCell_toArray HON.out) ?_))
  have hth : (w1.alloc (.cells #[.string ⟨#[]⟩, .int .i64 0, .int .i64 0, .int .i64 0, .slice none 0 0, .int .i64 0, .int .i64 0, .int .i64 0, .int .i64 0, .int .i64 0, .int .i64 0, .int .i64 0, .int .i64 0, .int .i64 0, .int .i64 0, .int .i64 0, .int .i64 0, .int .i64 0, .int .i64 0, .int .i64 0, .slice none 0 0, .slice none 0 0, .slice none 0 0, .slice none 0 0, .slice none 0 0, .slice none 0 0, .string ⟨#[]⟩] 36)).there w1.heap.size 0 bv.length := by rw [HBL.out]; exact thereZ w1
  have hrg : ((w1.alloc (.cells #[.string ⟨#[]⟩, .int .i64 0, .int .i64 0, .int .i64 0, .slice none 0 0, .int .i64 0, .int .i64 0, .int .i64 0, .int .i64 0, .int .i64 0, .int .i64 0, .int .i64 0, .int .i64 0, .int .i64 0, .int .i64 0, .int .i64 0, .int .i64 0, .int .i64 0, .int .i64 0, .int .i64 0, .slice none 0 0, .slice none 0 0, .slice none 0 0, .slice none 0 0, .slice none 0 0, .slice none 0 0, .string ⟨#[]⟩] 36)).setCells w1.heap.size 0 bv).rangeAt w1.heap.size 0 bv := World.rangeAt_setCells_same _ _ _ _ hth
  have hk2 : Keeps w1 ((w1.alloc (.cells #[.string ⟨#[]⟩, .int .i64 0, .int .i64 0, .int .i64 0, .slice none 0 0, .int .i64 0, .int .i64 0, .int .i64 0, .int .i64 0, .int .i64 0, .int .i64 0, .int .i64 0, .int .i64 0, .int .i64 0, .int .i64 0, .int .i64 0, .int .i64 0, .int .i64 0, .int .i64 0, .int .i64 0, .slice none 0 0, .slice none 0 0, .slice none 0 0, .slice none 0 0, .slice none 0 0, .slice none 0 0, .string ⟨#[]⟩] 36)).setCells w1.heap.size 0 bv) := keeps_setCellsP (Nat.le_refl _) _ _ _ ((Keeps.refl w1).alloc _)
  obtain ⟨W2, hW2⟩ : ∃ W2, (w1.alloc (.cells #[.string ⟨#[]⟩, .int .i64 0, .int .i64 0, .int .i64 0, .slice none 0 0, .int .i64 0, .int .i64 0, .int .i64 0, .int .i64 0, .int .i64 0, .int .i64 0, .int .i64 0, .int .i64 0, .int .i64 0, .int .i64 0, .int .i64 0, .int .i64 0, .int .i64 0, .int .i64 0, .int .i64 0, .slice none 0 0, .slice none 0 0, .slice none 0 0, .slice none 0 0, .slice none 0 0, .slice none 0 0, .string ⟨#[]⟩] 36)).setCells w1.heap.size 0 bv = W2 := ⟨_, rfl⟩
  rw [hW2] at hrg hk2 ⊢
  clear hW2 hth
  have HRG := Lib.hid hrg
  have K2 := Lib.hid (K1.out.trans hk2)
  have HPO : Hid (Calls Tryz.prog 11 #[.agg bv.toArray, .slice ai 2 ci, .int .i64 0] W2 fun e w' => ∃ v, e = .returned (.tuple #[v, .int .i64 0]) ∧ PsV w' pstS v ∧ Keeps W2 w') := Lib.hid (by
    have := postings_any bv gS (esS l q) hsS (msS r t) itS 0 ai ci bi 0 W2 (HB1.out.keeps hk2) (HI1.out.keeps hk2) (smallS l q r t) itS_ok
    rw [postsS] at this
    exact this)
  clear hrg hk2
  go_wp2_with (first | (refine wpList_rowG 36 _ rfl rfl w1.heap.size bv _ rfl HRG.out Tryz.underlying36 rfl (by rw [HBL.out]; exact booksSize) ?_) | (go_at_call 11; (refine (HPO.out).mono ?_); rintro e3 w3 ⟨v3, rfl, hp3, hk3⟩; have HP3 := Lib.hid hp3; have K3 := Lib.hid (K2.out.trans hk3); have KK3 := Lib.hid hk3; clear hp3 hk3) | (go_at_call 13; (refine (samep_any pstS _ _ _ (HP3.out.keeps (((Keeps.refl w3).alloc _).alloc _)) (pstS_lit w3)).mono ?_); rintro e4 w4 ⟨rfl, hk4⟩))
  go_ret
  exact ⟨rfl, (((K3.out.alloc _).alloc _).trans hk4)⟩
end Go.Proofs.YtoaidbhiciaeaaaGreat

end
section
namespace Go.Proofs.YtoaidbhiciaeaaaGreat
open Go.RowKit
set_option linter.unusedSimpArgs false
set_option linter.unusedVariables false
theorem PsV.shape {w : World} {l : List Pst} {v : Value} (h : PsV w l v) : ∃ ao cap, v = .slice ao l.length cap ∧ l.length ≤ cap ∧ cap ≤ 9223372036854775807 := by
  obtain ⟨ls, ao, cap, b, rfl, h1, _, h3⟩ := h
  have : ls.length = l.length := by rw [← h3, List.length_map]
  exact ⟨ao, cap, by rw [this], by rw [← this]; exact Sl.le h1, Sl.cap h1⟩
theorem elemMt : ElemOf Tryz.prog 33 48 (.agg #[.int .i64 0, .slice none 0 0, .slice none 0 0, .int .i64 0]) 4 64 := ⟨Tryz.underlying33, by kernel_rfl, rfl, by omega⟩
theorem MV.one (m : MV) : ∀ v ∈ m.cells, v.oneCell' = true := by
  intro v hv
  simp only [MV.cells, List.mem_cons, List.not_mem_nil, or_false] at hv
  rcases hv with rfl | rfl | rfl | rfl <;> rfl
theorem set_get {bv : List Value} {v : Value} {j k : Nat} {u : Value} (h : bv[j]? = some u) (hne : j ≠ k) : (bv.set k v)[j]? = some u := by
  rw [List.getElem?_set_ne (fun e => hne e.symm)]; exact h
theorem set_at {bv : List Value} {v : Value} {k : Nat} (h : k < bv.length) : (bv.set k v)[k]? = some v := by
  rw [List.getElem?_set_self h]
theorem BkG.setM {w : World} {bv : List Value} {g : Grp} {es : List JV} {hs : List Hol} {ms l : List MV} {ao : Option Addr} {cap b o : Nat} (H : BkG w bv g es hs ms) (hsub : ∀ m ∈ l, m ∈ ms) (hr : Recs w 4 MV.cells ao l cap b o) : BkG w (bv.set 24 (.slice ao l.length cap)) g es hs l := by
  obtain ⟨aoM, capM, bM, oM, _, hM⟩ := H.bks.mts
  obtain ⟨ao1, cap1, b1, o1, he, hj⟩ := H.bks.ents
  obtain ⟨aoC, capC, bC, oC, aoE, capE, bE, oE, hgc, hC, hE⟩ := H.grp
  obtain ⟨aoH, capH, bH, oH, hb23, hH⟩ := H.hol
  have hl := H.bks.len
  refine ⟨⟨by rw [List.length_set]; exact hl, fun v hv => ?_, ⟨ao1, cap1, b1, o1, set_get he (by omega), hj⟩, ⟨ao, cap, b, o, set_at (by omega), hr, fun m hm => hM.left m (hsub m hm), fun m hm => hM.right m (hsub m hm)⟩, H.bks.ok, fun m hm => H.bks.mok m (hsub m hm)⟩, ⟨aoC, capC, bC, oC, aoE, capE, bE, oE, fun j v hv => set_get (hgc j v hv) (by have := (List.getElem?_eq_some_iff.1 hv).1; have h21 : (g.cells (.slice aoC g.chart.length capC) (.slice aoE g.ents.length capE)).length = 21 := rfl; omega), hC, hE⟩, ⟨aoH, capH, bH, oH, set_get hb23 (by omega), hH⟩⟩
  rcases List.mem_or_eq_of_mem_set hv with h | h
  · exact H.bks.one v h
  · rw [h]; rfl
end Go.Proofs.YtoaidbhiciaeaaaGreat

end
section
namespace Go.Proofs.YtoaidbhiciaeaaaGreat
open Go.RowKit
set_option linter.unusedSimpArgs false
set_option linter.unusedVariables false
theorem elemJV : ElemOf Tryz.prog 30 56 (.agg #[.int .i64 0, .int .i64 0, .int .i64 0, .int .i64 0, .int .i64 0, .string ⟨#[]⟩, .slice none 0 0]) 7 80 := ⟨Tryz.underlying30, by kernel_rfl, rfl, by omega⟩
theorem JV.oneC (e : JV) : ∀ v ∈ e.cells, v.oneCell' = true := by
  intro v hv
  simp only [JV.cells, List.mem_cons, List.not_mem_nil, or_false] at hv
  rcases hv with rfl | rfl | rfl | rfl | rfl | rfl | rfl <;> rfl
theorem Rf.oneC (r : Rf) : ∀ v ∈ r.cells, v.oneCell' = true := by
  intro v hv
  simp only [Rf.cells, List.mem_cons, List.not_mem_nil, or_false] at hv
  rcases hv with rfl | rfl <;> rfl
theorem Itm.oneC (r : Itm) : ∀ v ∈ r.cells, v.oneCell' = true := by
  intro v hv
  simp only [Itm.cells, List.mem_cons, List.not_mem_nil, or_false] at hv
  rcases hv with rfl | rfl | rfl | rfl | rfl | rfl | rfl <;> rfl
theorem own_apart {w : World} {B1 B2 e1 e2 s1 s2 n1 n2 : Nat} {v1 v2 : Value} {xs ys : List Value} (h1 : w.ownsRow B1 e1 s1 v1 n1 xs) (h2 : w.ownsRow B2 e2 s2 v2 n2 ys) (hne : e1 ≠ e2) : v1.ownBlock = none ∨ v1.ownBlock ≠ v2.ownBlock := by
  cases hv : v1.ownBlock with
  | none => exact .inl rfl
  | some g =>
    right; intro e
    obtain ⟨c, f, h⟩ := Go.Lib.ownsRow_kind h1 g hv
    obtain ⟨c2, f2, h'⟩ := Go.Lib.ownsRow_kind h2 g e.symm
    rw [h] at h'
    simp only [Option.some.injEq, Obj.cells.injEq] at h'
    exact hne h'.2.1
theorem rev_take {α : Type} (l : List α) (k : Nat) (h : k < l.length) : l.reverse.take (k + 1) = l.reverse.take k ++ [l[l.length - 1 - k]'(by omega)] := by
  rw [take_snoc _ k (by simpa using h), List.getElem_reverse]
theorem rev_all {α : Type} (l : List α) : l.reverse.take l.length = l.reverse := List.take_of_length_le (by simp)
structure OrA (W wr : World) (items : List Itm) (k : Nat) (ar : Option Addr) (cr : Nat) (ab : Option Addr) (cb : Nat) : Prop where
  kp : Keeps W wr
  o1 : wr.ownsRow W.heap.size 51 2 (.slice ar k cr) k (((items.take k).map Itm.ref).flatMap Rf.cells)
  o2 : wr.ownsRow W.heap.size 53 7 (.slice ab k cb) k ((items.reverse.take k).flatMap Itm.cells)
  nd : ((items.take k).map Itm.ref).Nodup
theorem OrA.start (W : World) (items : List Itm) : OrA W W items 0 none 0 none 0 := ⟨Keeps.refl _, by rw [List.take_zero]; exact World.ownsRow_nil _ _ _ _, by rw [List.take_zero]; exact World.ownsRow_nil _ _ _ _, by simp⟩
theorem OrA.mid {W wr w2 w9 : World} {items : List Itm} {k : Nat} {ar ab : Option Addr} {cr cb : Nat} {o : Obj} (H : OrA W wr items k ar cr ab cb) (hk2 : Keeps wr w2) (hg : (w2.alloc o).grownBy w9 (Value.slice ar k cr).ownBlock) :
    Keeps W w9 ∧ w9.ownsRow W.heap.size 53 7 (.slice ab k cb) k ((items.reverse.take k).flatMap Itm.cells) := by
  have hk : Keeps W (w2.alloc o) := (H.kp.trans hk2).alloc o
  have h1 := own_keepsH H.o1 (hk2.alloc o)
  have h2 := own_keepsH H.o2 (hk2.alloc o)
  exact ⟨Below.grown hk hg hk.size (fun j hj => (h1.lt j hj).1), h2.kept hg (own_apart h2 h1 (by decide))⟩
theorem OrA.step {W wr w9 w10 : World} {items : List Itm} {k : Nat} {ar ab a9 a10 : Option Addr} {cr cb c9 c10 : Nat} {o : Obj} (H : OrA W wr items k ar cr ab cb) (hlt : k < items.length) {x y : Itm} (hx : items[k] = x) (hy : items[items.length - 1 - k]'(by omega) = y) (hno : x.ref ∉ (items.take k).map Itm.ref)
    (h9 : w9.ownsRow W.heap.size 51 2 (.slice a9 (k + 1) c9) (k + 1) (((items.take k).map Itm.ref).flatMap Rf.cells ++ x.ref.cells)) (hm : Keeps W w9 ∧ w9.ownsRow W.heap.size 53 7 (.slice ab k cb) k ((items.reverse.take k).flatMap Itm.cells))
    (h10 : w10.ownsRow W.heap.size 53 7 (.slice a10 (k + 1) c10) (k + 1) ((items.reverse.take k).flatMap Itm.cells ++ y.cells)) (hg : (w9.alloc o).grownBy w10 (Value.slice ab k cb).ownBlock) : OrA W w10 items (k + 1) a9 c9 a10 c10 := by
  have hk : Keeps W (w9.alloc o) := hm.1.alloc o
  have h1 := own_keepsH h9 ((Keeps.refl w9).alloc o)
  have h2 := own_keepsH hm.2 ((Keeps.refl w9).alloc o)
  refine ⟨Below.grown hk hg hk.size (fun j hj => (h2.lt j hj).1), ?_, ?_, ?_⟩
  · rw [take_snoc _ k hlt, hx, List.map_append, List.flatMap_append, List.map_singleton, List.flatMap_singleton]
    exact h1.kept hg (own_apart h1 h2 (by decide))
  · rw [rev_take _ k hlt, hy, List.flatMap_append, List.flatMap_singleton]
    exact h10
  · rw [take_snoc _ k hlt, hx, List.map_append, List.map_singleton]
    exact List.nodup_append.2 ⟨H.nd, by simp, fun a ha b hb e => by
      rw [List.mem_singleton] at hb
      subst hb; subst e
      exact hno ha⟩
theorem grown_two {a b c : World} {row : Option Nat} (h : a.grownBy b row) (k : b.grownBy c row) : a.grownBy c row :=
  ⟨k.os.trans h.os, k.tape.trans h.tape, k.output.trans h.output, Nat.le_trans h.size k.size, fun i hi hne => (k.block i (Nat.lt_of_lt_of_le hi h.size) hne).trans (h.block i hi hne)⟩
structure BxR {α : Type} (en : α → List Value) (sz : Nat) (e : TypeId) (W W0 wr : World) (B j : Nat) (bv : List Value) (l : List α) (k : Nat) (a : Option Addr) (c : Nat) : Prop where
  kp : Keeps W wr
  box : RowB wr B 36 (bv.set j (.slice a k c))
  own : wr.ownsRow W0.heap.size e sz (.slice a k c) k ((l.reverse.take k).flatMap en)
  oth : W0.grownBy wr (some B)
theorem BxR.start {α : Type} {en : α → List Value} {sz : Nat} {e : TypeId} {W W0 : World} {B j : Nat} {bv : List Value} {l : List α} (hk : Keeps W W0) (h : RowB W0 B 36 (bv.set j (.slice none 0 0))) : BxR en sz e W W0 W0 B j bv l 0 none 0 :=
  ⟨hk, h, by rw [List.take_zero]; exact World.ownsRow_nil _ _ _ _, grown_refl _ _⟩
theorem BxR.keeps {α : Type} {en : α → List Value} {sz : Nat} {e : TypeId} {W W0 wr w2 : World} {B j : Nat} {bv : List Value} {l : List α} {k : Nat} {a : Option Addr} {c : Nat} (H : BxR en sz e W W0 wr B j bv l k a c) (h : Keeps wr w2) : BxR en sz e W W0 w2 B j bv l k a c :=
  ⟨H.kp.trans h, H.box.keeps h, own_keepsH H.own h, grown_two H.oth (keeps_grown h _)⟩
theorem BxR.step {α : Type} {en : α → List Value} {sz : Nat} {e : TypeId} {W W0 wr w9 : World} {B j : Nat} {bv : List Value} {l : List α} {k : Nat} {a a9 : Option Addr} {c c9 : Nat} {o : Obj} (H : BxR en sz e W W0 wr B j bv l k a c) (hlt : k < l.length) {y : α} (hy : l[l.length - 1 - k]'(by omega) = y) (hWB : W.heap.size ≤ B) (hB : B < W0.heap.size) (hW : W.heap.size ≤ W0.heap.size)
    (h9 : w9.ownsRow W0.heap.size e sz (.slice a9 (k + 1) c9) (k + 1) ((l.reverse.take k).flatMap en ++ en y)) (hg : (wr.alloc o).grownBy w9 (Value.slice a k c).ownBlock) : BxR en sz e W W0 (w9.setCell ⟨B, j, none⟩ (.slice a9 (k + 1) c9)) B j bv l (k + 1) a9 c9 := by
  have hk : Keeps W (wr.alloc o) := H.kp.alloc o
  have h1 := own_keepsH H.own ((Keeps.refl wr).alloc o)
  refine ⟨Keeps.setCell (Below.grown hk hg hk.size (fun q hq => Nat.le_trans hW (h1.lt q hq).1)) (p := ⟨B, j, none⟩) hWB _, ?_, ?_, ?_⟩
  · have := ((H.box.alloc o).kept hg (fun e => by have := (h1.lt B e.symm).1; omega)).set j (.slice a9 (k + 1) c9)
    rw [List.set_set] at this
    exact this
  · rw [rev_take _ k hlt, hy, List.flatMap_append, List.flatMap_singleton]
    exact ownsRow_setCell_below h9 hB _
  · have hka : Keeps wr (wr.alloc o) := (Keeps.refl wr).alloc o
    refine grown_two (b := w9) ⟨hg.os.trans (hka.os.trans H.oth.os), hg.tape.trans (hka.tape.trans H.oth.tape), hg.output.trans (hka.output.trans H.oth.output), Nat.le_trans H.oth.size (Nat.le_trans hka.size hg.size), fun i hi hne => ?_⟩ (grown_set _ _ _ _)
    have hi2 := Nat.lt_of_lt_of_le hi H.oth.size
    exact (hg.block i (Nat.lt_of_lt_of_le hi2 hka.size) (fun e => by have := (h1.lt i e.symm).1; omega)).trans ((hka.block i hi2).trans (H.oth.block i hi hne))
theorem BkG.turned {w : World} {bv : List Value} {g : Grp} {es es2 : List JV} {hs : List Hol} {ms ms2 : List MV} {aM aE : Option Addr} {cM bM cE bE : Nat} (H : BkG w bv g es hs ms) (hm : ∀ m ∈ ms2, m ∈ ms) (he : ∀ m ∈ es2, m ∈ es) (hr : Recs w 4 MV.cells aM ms2 cM bM 0) (hq : Recs w 7 JV.cells aE es2 cE bE 0) :
    BkG w ((bv.set 24 (.slice aM ms2.length cM)).set 21 (.slice aE es2.length cE)) g es2 hs ms2 := by
  have h1 := H.setM hm hr
  obtain ⟨ao1, cap1, b1, o1, he1, hj⟩ := H.bks.ents
  obtain ⟨aoC, capC, bC, oC, aoE, capE, bE, oE, hgc, hC, hE⟩ := h1.grp
  obtain ⟨aoH, capH, bH, oH, hb23, hH⟩ := h1.hol
  obtain ⟨a2, c2, b2, o2, hb24, hM⟩ := h1.bks.mts
  have hl := h1.bks.len
  refine ⟨⟨by rw [List.length_set]; exact hl, fun v hv => ?_, ⟨aE, cE, _, 0, set_at (by omega), ⟨hq, fun e h => hj.lines e (he e h)⟩⟩, ⟨a2, c2, b2, o2, set_get hb24 (by omega), hM⟩, fun e h => H.bks.ok e (he e h), h1.bks.mok⟩, ⟨aoC, capC, bC, oC, aoE, capE, bE, oE, fun j v hv => set_get (hgc j v hv) (by have := (List.getElem?_eq_some_iff.1 hv).1; have h21 : (g.cells (.slice aoC g.chart.length capC) (.slice aoE g.ents.length capE)).length = 21 := rfl; omega), hC, hE⟩, ⟨aoH, capH, bH, oH, set_get hb23 (by omega), hH⟩⟩
  rcases List.mem_or_eq_of_mem_set hv with h | h
  · exact h1.bks.one v h
  · rw [h]; rfl
theorem SmallB.turned {g : Grp} {es : List JV} {hs : List Hol} {ms : List MV} {items : List Itm} (h : SmallB g es hs ms items) : SmallB g es.reverse hs ms.reverse items.reverse :=
  ⟨h.gok, fun e he => h.lines e (by simpa using he), h.hlen, h.hok, fun m hm => h.sides m (by simpa using hm), fun m hm => h.ids m (by simpa using hm), by simpa using h.mlen, by simpa using h.ilen, fun x hx => h.iref x (by simpa using hx)⟩
theorem posts_turned {g : Grp} {es : List JV} {hs : List Hol} {ms : List MV} {items : List Itm} {p : Int} (hde : (es.reverse.map (fun e => e.x.id)).Nodup) (hdi : (items.map Itm.ref).Nodup) : postsF g es.reverse hs ms.reverse items.reverse p = postsF g es hs ms items p := by
  have hde2 := (((List.reverse_perm es).map (fun e : JV => e.x.id)).nodup_iff).1 hde
  exact (posts_order (List.reverse_perm es).symm hde2 (List.reverse_perm items).symm hdi (List.reverse_perm ms).symm).symm
end Go.Proofs.YtoaidbhiciaeaaaGreat

end
