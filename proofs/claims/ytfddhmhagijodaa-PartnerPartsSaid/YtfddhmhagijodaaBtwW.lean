/- partner.between: the walk. -/
import Derived.Test.YtfddhmhagijodaaDelW
namespace Go.Proofs.Ytfddhmhagijodaa
open Go.RowKit Go.Shelf Go.Lib Go.Sort
set_option linter.unusedSimpArgs false
set_option linter.unusedVariables false

theorem own_baseP {W : World} {base base' : Nat} {e : TypeId} {size : Nat} {v : Value} {k : Nat} {xs : List Value} (h : W.ownsRow base e size v k xs) (hb : base' ≤ base) : W.ownsRow base' e size v k xs := by
  refine ⟨h.1, ?_⟩
  rcases h.2 with hn | ⟨g, cap, cur, hv, hbg, rest⟩
  · exact .inl hn
  · exact .inr ⟨g, cap, cur, hv, Nat.le_trans hb hbg, rest⟩
theorem del_nil (be bp : Nat) (en pt : Int) (w : World) (he : w.cell? ⟨be, 0, none⟩ = some (.int .i64 en)) (hp : w.cell? ⟨bp, 0, none⟩ = some (.int .i64 pt)) :
    Calls Try.prog 45 #[.slice none 0 0, .func (.func 46) #[] #[.pointer (some ⟨be, 0, none⟩), .pointer (some ⟨bp, 0, none⟩)]] w
      fun e w' => e = .returned (.slice none 0 0) ∧ Keeps w w' := by
  have HI : Hid (Calls Try.prog 58 #[.slice none 0 0, .func (.func 46) #[] #[.pointer (some ⟨be, 0, none⟩), .pointer (some ⟨bp, 0, none⟩)]] w (IdxPost w en pt [])) := Lib.hid
    (idx_any be bp en pt none [] 0 0 0 w (Sl.nil w _) he hp)
  go_enter Try.func45, Try.ntmps45
  go_wp2_with (go_at_call 58; refine HI.out.mono ?_; rintro e w1 ⟨hk1, k, hk, HZ, ⟨rfl, rfl⟩ | ⟨hkl, hob, rfl⟩⟩)
  go_ret
  exact ⟨rfl, hk1⟩
theorem del_own (be bp : Nat) (en pt : Int) (base : Nat) (v : Value) (xs : List Plc) (w : World) (H : w.ownsRow base 75 8 v xs.length (xs.flatMap Plc.cells)) (hb : base ≤ w.heap.size) (hbe : be < base) (hbp : bp < base)
    (he : w.cell? ⟨be, 0, none⟩ = some (.int .i64 en)) (hp : w.cell? ⟨bp, 0, none⟩ = some (.int .i64 pt)) :
    Calls Try.prog 45 #[v, .func (.func 46) #[] #[.pointer (some ⟨be, 0, none⟩), .pointer (some ⟨bp, 0, none⟩)]] w
      fun e w' => ∃ v, e = .returned v ∧ w'.ownsRow base 75 8 v (xs.filter (fun p => !outsB en pt p)).length ((xs.filter (fun p => !outsB en pt p)).flatMap Plc.cells) ∧ Below base w w' := by
  rcases H.2 with ⟨rfl, h0⟩ | ⟨g, cap, cur, rfl, _⟩
  · have hz := List.eq_nil_of_length_eq_zero h0
    subst hz
    refine (del_nil be bp en pt w he hp).mono ?_
    rintro e w' ⟨rfl, hk⟩
    exact ⟨_, rfl, World.ownsRow_nil _ _ _ _, hk.mono hb⟩
  · exact del_any be bp en pt base g cap xs w H hb hbe hbp he hp
theorem box_range (w : World) (bv : List Value) (ty : TypeId) : (w.alloc (.cells bv.toArray ty)).rangeAt w.heap.size 0 bv := fun j v hv => by
  rw [Nat.zero_add, cell_of_row (w.alloc (.cells bv.toArray ty)) w.heap.size j bv.toArray ty (0, 0) (heap_alloc_new w _)]
  simpa using hv
theorem range_keeps {w w' : World} {b o : Nat} {cs : List Value} (h : w.rangeAt b o cs) (k : Keeps w w') : w'.rangeAt b o cs := fun j v hv => k.cell (h j v hv)
theorem booksSize : (Try.prog.info? 36).map (·.size) = some 27 := by kernel_rfl
/-- The books, loaded out of a box. -/
theorem wpList_books {w : World} {ops : Array Oper} {rest : List Oper} {op : Oper} {a : Act} {Q : Exit → Act → World → Prop} (hgd : op.guard = none) (x : Operand) (ho : op.op = .load 36 x)
    (b : Nat) (bv : List Value) (hbl : bv.length = 27) (hx : a.eval x = .pointer (some ⟨b, 0, none⟩)) (hc : w.rangeAt b 0 bv)
    (h : wpList Try.prog ops Q rest (a.put op.dst (.agg bv.toArray)) w) : wpList Try.prog ops Q (op :: rest) a w :=
  wpList_load_mid hgd 36 x ho b 0 hx bv _ hc Try.underlying36 rfl (by rw [hbl]; exact booksSize) h
/-- The lines of an entity with a partner. -/
def btw (date en pt : Int) (l : List Jrn) : List Plc := (places date l).filter (fun p => !outsB en pt p)
set_option maxRecDepth 100000 in
set_option maxHeartbeats 1000000 in
theorem between_any (bv : List Value) (hbl : bv.length = 27) (hb1 : ∀ v ∈ bv, v.oneCell' = true) (es : List JV) (ao : Option Addr) (cap b o : Nat) (hbe : bv[21]? = some (.slice ao es.length cap)) (en pt date : Int) (w : World) (H : Jrns w es ao cap b o)
    (hn : es.length ≤ 42) (hm : ∀ e ∈ es, e.x.lines.length ≤ 8) :
    Calls Try.prog 28 #[.agg bv.toArray, .int .i64 en, .int .i64 pt, .int .i64 date] w
      fun e w' => ∃ v, e = .returned v ∧ w'.ownsRow w.heap.size 75 8 v (btw date en pt (es.map JV.x)).length ((btw date en pt (es.map JV.x)).flatMap Plc.cells) ∧ Keeps w w' := by
  have HP := Lib.hid (fun W hW => places_any bv hbl hb1 es ao cap b o hbe date W (H.keeps hW) hn hm)
  obtain ⟨P, hP⟩ : ∃ P, places date (es.map JV.x) = P := ⟨_, rfl⟩
  have HB : Hid (btw date en pt (es.map JV.x) = P.filter (fun p => !outsB en pt p)) := Lib.hid (by rw [btw, hP])
  rw [hP] at HP
  clear hP H hb1 hbe hm
  go_enter Try.func28, Try.ntmps28
  have hrg : (((w.alloc (.cells bv.toArray 36)).alloc (.cells #[.int .i64 en] 3)).alloc (.cells #[.int .i64 pt] 3)).rangeAt w.heap.size 0 bv := range_keeps (box_range w bv _) (((Keeps.refl _).alloc _).alloc _)
  have hk0 : Keeps w (((w.alloc (.cells bv.toArray 36)).alloc (.cells #[.int .i64 en] 3)).alloc (.cells #[.int .i64 pt] 3)) := (((Keeps.refl w).alloc _).alloc _).alloc _
  go_wp2_with (first | (refine wpList_books rfl (.tmp 4) rfl w.heap.size bv hbl rfl hrg ?_; clear hrg) | (go_at_call 38; (refine (HP.out _ hk0).mono ?_); rintro e w1 ⟨v1, rfl, ho1, hk1⟩; have he1 := hk1.cell (p := ⟨w.heap.size + 1, 0, none⟩) (v := .int .i64 en) (by go_simp); have hp1 := hk1.cell (p := ⟨w.heap.size + 1 + 1, 0, none⟩) (v := .int .i64 pt) (by go_simp)) | (go_at_call 45; (refine (del_own (w.heap.size + 1) (w.heap.size + 1 + 1) en pt _ v1 P w1 ho1 hk1.size (by simp) (by simp) he1 hp1).mono ?_); rintro e w2 ⟨v2, rfl, ho2, hb2⟩))
  go_ret
  rw [HB.out]
  exact ⟨_, rfl, own_baseP ho2 (by simp; omega), hk0.trans (Below.trans hk1 hb2)⟩
end Go.Proofs.Ytfddhmhagijodaa
