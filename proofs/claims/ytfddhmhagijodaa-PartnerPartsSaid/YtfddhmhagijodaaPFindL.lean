/- The law on Find: the walks. -/
import Derived.Test.YtfddhmhagijodaaPFindR
import Derived.Test.YtfddhmhagijodaaPAwk
namespace Go.Proofs.Ytfddhmhagijodaa
open Go.RowKit
set_option linter.unusedSimpArgs false
set_option linter.unusedVariables false

theorem neqLn (a b c : Int) (w : World) : (binOp .neq 56 (.agg #[.int .i64 a, .int .i64 b, .int .i64 c]) (.agg #[.int .i64 a, .int .i64 b, .int .i64 c])).run Try.prog w = .ok (.bool false) w := by
  go_simp
theorem eqLn (a b c : Int) (w : World) : (binOp .eql 56 (.agg #[.int .i64 a, .int .i64 b, .int .i64 c]) (.agg #[.int .i64 a, .int .i64 b, .int .i64 c])).run Try.prog w = .ok (.bool true) w := by
  go_simp
set_option maxRecDepth 100000 in
set_option maxHeartbeats 2000000 in
theorem samee_any (x : Jrn) (ao ao2 : Option Addr) (cap b o cap2 b2 o2 : Nat) (w : World) (H : Recs w 3 Ln.cells ao x.lines cap b o) (H2 : Recs w 3 Ln.cells ao2 x.lines cap2 b2 o2) :
    Calls Try.prog 23 #[jrnV x (.slice ao x.lines.length cap), jrnV x (.slice ao2 x.lines.length cap2)] w fun e w' => e = .returned (.bool true) ∧ Keeps w w' := by
  have hcap := Sl.cap H
  have hle := Sl.le H
  have hcap2 := Sl.cap H2
  have hle2 := Sl.le H2
  have HH := Lib.hid H
  have HH2 := Lib.hid H2
  have hneq := neqLn
  clear H H2
  unfold jrnV
  go_enter Try.func23, Try.ntmps23
  go_wp2_with fail
  obtain ⟨W1, hW1⟩ : ∃ W1, (w.alloc (.cells #[.int .i64 x.id, .int .i64 x.ent, .int .i64 x.date, .int .i64 x.kind, .int .i64 x.of_, .string x.text, .slice ao x.lines.length cap] 50)).alloc (.cells #[.int .i64 x.id, .int .i64 x.ent, .int .i64 x.date, .int .i64 x.kind, .int .i64 x.of_, .string x.text, .slice ao2 x.lines.length cap2] 50) = W1 := ⟨_, rfl⟩
  have x6 : W1.cell? ⟨w.heap.size, 6, none⟩ = some (.slice ao x.lines.length cap) := by subst hW1; go_simp
  have y6 : W1.cell? ⟨w.heap.size + 1, 6, none⟩ = some (.slice ao2 x.lines.length cap2) := by subst hW1; go_simp
  have HK : Hid (Keeps w W1) := Lib.hid (by rw [← hW1]; exact ((Keeps.refl w).alloc _).alloc _)
  try rw [hW1]
  clear hW1
  go_loopw [5] (fun vi wr => ∃ k q : Nat, k ≤ x.lines.length ∧ vi = .int .i64 k ∧ wr = W1.drewN q) (fun vi _ => x.lines.length - (intOf vi).toNat)
  case atStart => exact ⟨0, 0, Nat.zero_le _, rfl, rfl⟩
  case round =>
    obtain ⟨k, q, hk, rfl, rfl⟩ := hrel
    by_cases hlt : k < x.lines.length
    · have h1 := HH.out.keeps HK.out
      have h2 := HH2.out.keeps HK.out
      have hix := Sl.at h1 Try.underlying48 Try.sizeOf56 k hlt
      have c0 := h1.cell Ln.len k hlt 0 _ rfl
      have c1 := h1.cell Ln.len k hlt 1 _ rfl
      have c2 := h1.cell Ln.len k hlt 2 _ rfl
      have hix2 := Sl.at h2 Try.underlying48 Try.sizeOf56 k hlt
      have d0 := h2.cell Ln.len k hlt 0 _ rfl
      have d1 := h2.cell Ln.len k hlt 1 _ rfl
      have d2 := h2.cell Ln.len k hlt 2 _ rfl
      simp only [Nat.add_zero] at c0 d0
      clear h1 h2
      go_wp2_with fail
      go_quiet (fail)
      go_wp2_with fail
      go_roundw
      case rel => exact ⟨k + 1, _, by omega, by go_num, rfl⟩
      case measure => simp [intOf]; omega
    · go_wp2
      go_ret
      exact ⟨rfl, HK.out.drewN _⟩
theorem fstE_exists (i : Int) : ∀ es : List JV, ∃ k, FstE es i k
  | [] => ⟨0, by simp, Nat.le_refl _, fun h => absurd h (Nat.lt_irrefl _)⟩
  | e :: es => by
    by_cases h : e.x.id = i
    · exact ⟨0, by simp, Nat.zero_le _, fun _ => h⟩
    · obtain ⟨k, h1, h2, h3⟩ := fstE_exists i es
      refine ⟨k + 1, fun y hy => ?_, by simpa using h2, fun hl => by simpa using h3 (by simpa using hl)⟩
      rw [List.take_succ_cons] at hy
      rcases List.mem_cons.1 hy with rfl | hy
      · exact h
      · exact h1 y hy
/-- The books, loaded out of a box, at an operation that is guarded and wanted. -/
theorem wpList_booksG {w : World} {ops : Array Oper} {rest : List Oper} {op : Oper} {a : Act} {Q : Exit → Act → World → Prop} (x : Operand) (hw : Region.wanted op (yielded ops a.tmps) = true) (ho : op.op = .load 36 x)
    (b : Nat) (bv : List Value) (hbl : bv.length = 27) (hx : a.eval x = .pointer (some ⟨b, 0, none⟩)) (hc : w.rangeAt b 0 bv)
    (h : wpList Try.prog ops Q rest (a.put op.dst (.agg bv.toArray)) w) : wpList Try.prog ops Q (op :: rest) a w :=
  Go.BigFrame.wpList_want hw fun K hK => wp_load_mid 36 x ho b 0 hx bv _ hc Try.underlying36 rfl (by rw [hbl]; exact booksSize) (hK _ _ h)
set_option maxRecDepth 100000 in
set_option maxHeartbeats 2000000 in
theorem lawFind_any (bv : List Value) (es : List JV) (ms : List MV) (re rl : Int) (w : World) (H : Bks w bv es ms) :
    Calls Try.prog 7 #[.agg bv.toArray, .agg #[.int .i64 re, .int .i64 rl]] w fun e w' => e = .returned (.bool true) ∧ Keeps w w' := by
  have HB := Lib.hid H
  have hbl := H.len
  have hrg := box_range w bv 36
  have hk0 : Keeps w (w.alloc (.cells bv.toArray 36)) := (Keeps.refl w).alloc _
  have hz0 : (w.alloc (.cells bv.toArray 36)).heap.size = w.heap.size + 1 := by simp
  obtain ⟨W1, hW1⟩ : ∃ W1, w.alloc (.cells bv.toArray 36) = W1 := ⟨_, rfl⟩
  rw [hW1] at hrg hk0 hz0
  have r0 : (W1.alloc (.cells #[.int .i64 re, .int .i64 rl] 59)).cell? ⟨w.heap.size + 1, 0, none⟩ = some (.int .i64 re) := by rw [← hz0]; go_simp
  have r1 : (W1.alloc (.cells #[.int .i64 re, .int .i64 rl] 59)).cell? ⟨w.heap.size + 1, 1, none⟩ = some (.int .i64 rl) := by rw [← hz0]; go_simp
  have hrg2 := range_keeps hrg ((Keeps.refl W1).alloc (.cells #[.int .i64 re, .int .i64 rl] 59))
  have HK0 := Lib.hid hk0
  clear hrg hk0
  cases hf : fewB es ms with
  | false =>
    have HF : Hid (∀ W, Keeps w W → Calls Try.prog 11 #[.agg bv.toArray] W fun e w' => e = .returned (.bool false) ∧ Keeps W w') := Lib.hid (fun W hW => by have := few_any bv es ms W (HB.out.keeps hW); rw [hf] at this; exact this)
    clear hf H
    go_enter Try.func7, Try.ntmps7
    go_wp2_with (first | (go_at_call 10; first | (guard_hyp hk1 : _; refine (pawake_any _).mono ?_; rintro e w3 ⟨rfl, hk3⟩) | (refine (pawake_any _).mono ?_; rintro e w1 ⟨rfl, hk1⟩; have hrg1 := range_keeps hrg2 hk1)) | ((refine wpList_booksG (.tmp 2) rfl rfl w.heap.size bv hbl rfl hrg1 ?_); clear hrg1) | (go_at_call 11; refine (HF.out _ ((HK0.out.alloc _).trans hk1)).mono ?_; rintro e w2 ⟨rfl, hk2⟩))
    go_ret
    exact ⟨rfl, ((HK0.out.alloc _).trans hk1).trans (hk2.trans hk3)⟩
  | true =>
    obtain ⟨hl8, hn40, _, _⟩ := fewB_spec hf
    have HF : Hid (∀ W, Keeps w W → Calls Try.prog 11 #[.agg bv.toArray] W fun e w' => e = .returned (.bool true) ∧ Keeps W w') := Lib.hid (fun W hW => by have := few_any bv es ms W (HB.out.keeps hW); rw [hf] at this; exact this)
    obtain ⟨k, hk⟩ := fstE_exists re es
    obtain ⟨x, l, ok, hx⟩ : ∃ x l ok, findS es k rl = (x, l, ok) := ⟨_, _, _, rfl⟩
    have HP : Hid (∀ W, Keeps w W → Calls Try.prog 21 #[.agg bv.toArray, .agg #[.int .i64 re, .int .i64 rl]] W (FindOut W x l ok)) := Lib.hid (fun W hW => by have := pfind_any bv es ms re rl k hk W (HB.out.keeps hW) hl8; rw [hx] at this; exact this)
    have HR : Hid (∀ W, Keeps w W → Calls Try.prog 22 #[.agg bv.toArray, .agg #[.int .i64 re, .int .i64 rl]] W (FindOut W x l ok)) := Lib.hid (fun W hW => by have := rpfind_any bv es ms re rl k hk W (HB.out.keeps hW) hl8; rw [hx] at this; exact this)
    have hel := eqLn
    clear hf H hl8 hn40 hk hx
    go_enter Try.func7, Try.ntmps7
    go_wp2_with (first | (go_at_call 10; refine (pawake_any _).mono ?_; rintro e w1 ⟨rfl, hk1⟩; have hrg1 := range_keeps hrg2 hk1; have s0 := hk1.cell r0; have s1 := hk1.cell r1; have K1 := Lib.hid ((HK0.out.alloc (.cells #[.int .i64 re, .int .i64 rl] 59)).trans hk1)) | (refine wpList_booksG (.tmp 2) rfl rfl w.heap.size bv hbl rfl hrg1 ?_) | (refine wpList_books rfl (.tmp 2) rfl w.heap.size bv hbl rfl hrgc ?_) | (go_at_call 11; refine (HF.out _ K1.out).mono ?_; rintro e w2 ⟨rfl, hk2⟩; have hrgc := range_keeps hrg1 hk2; replace s0 := hk2.cell s0; replace s1 := hk2.cell s1; have K2 := Lib.hid (K1.out.trans hk2)) | (go_at_call 21; refine (HP.out _ K2.out).mono ?_; rintro e w3 ⟨ao3, cap3, b3, o3, rfl, hs3, hk3⟩; simp only [jrnV, lnV]; clear hrg1; replace hrgc := range_keeps hrgc ((hk3.alloc (.cells #[.int .i64 x.id, .int .i64 x.ent, .int .i64 x.date, .int .i64 x.kind, .int .i64 x.of_, .string x.text, .slice ao3 x.lines.length cap3] 50)).alloc (.cells #[.int .i64 l.acc, .int .i64 l.amt, .int .i64 l.ptn] 56)); replace s0 := ((hk3.alloc (.cells #[.int .i64 x.id, .int .i64 x.ent, .int .i64 x.date, .int .i64 x.kind, .int .i64 x.of_, .string x.text, .slice ao3 x.lines.length cap3] 50)).alloc (.cells #[.int .i64 l.acc, .int .i64 l.amt, .int .i64 l.ptn] 56)).cell s0; replace s1 := ((hk3.alloc (.cells #[.int .i64 x.id, .int .i64 x.ent, .int .i64 x.date, .int .i64 x.kind, .int .i64 x.of_, .string x.text, .slice ao3 x.lines.length cap3] 50)).alloc (.cells #[.int .i64 l.acc, .int .i64 l.amt, .int .i64 l.ptn] 56)).cell s1; have K4 := Lib.hid (((K2.out.trans hk3).alloc (.cells #[.int .i64 x.id, .int .i64 x.ent, .int .i64 x.date, .int .i64 x.kind, .int .i64 x.of_, .string x.text, .slice ao3 x.lines.length cap3] 50)).alloc (.cells #[.int .i64 l.acc, .int .i64 l.amt, .int .i64 l.ptn] 56)); have HS4 := Lib.hid (hs3.keeps (((Keeps.refl w3).alloc (.cells #[.int .i64 x.id, .int .i64 x.ent, .int .i64 x.date, .int .i64 x.kind, .int .i64 x.of_, .string x.text, .slice ao3 x.lines.length cap3] 50)).alloc (.cells #[.int .i64 l.acc, .int .i64 l.amt, .int .i64 l.ptn] 56)))) | (go_at_call 22; refine (HR.out _ K4.out).mono ?_; rintro e w5 ⟨ao5, cap5, b5, o5, rfl, hs5, hk5⟩; simp only [jrnV, lnV]; have x0 := ((hk5.alloc (.cells #[.int .i64 x.id, .int .i64 x.ent, .int .i64 x.date, .int .i64 x.kind, .int .i64 x.of_, .string x.text, .slice ao5 x.lines.length cap5] 50)).alloc (.cells #[.int .i64 l.acc, .int .i64 l.amt, .int .i64 l.ptn] 56)).cell (p := ⟨w3.heap.size, 0, none⟩) (v := .int .i64 x.id) (by go_simp); have x1 := ((hk5.alloc (.cells #[.int .i64 x.id, .int .i64 x.ent, .int .i64 x.date, .int .i64 x.kind, .int .i64 x.of_, .string x.text, .slice ao5 x.lines.length cap5] 50)).alloc (.cells #[.int .i64 l.acc, .int .i64 l.amt, .int .i64 l.ptn] 56)).cell (p := ⟨w3.heap.size, 1, none⟩) (v := .int .i64 x.ent) (by go_simp); have x2 := ((hk5.alloc (.cells #[.int .i64 x.id, .int .i64 x.ent, .int .i64 x.date, .int .i64 x.kind, .int .i64 x.of_, .string x.text, .slice ao5 x.lines.length cap5] 50)).alloc (.cells #[.int .i64 l.acc, .int .i64 l.amt, .int .i64 l.ptn] 56)).cell (p := ⟨w3.heap.size, 2, none⟩) (v := .int .i64 x.date) (by go_simp); have x3 := ((hk5.alloc (.cells #[.int .i64 x.id, .int .i64 x.ent, .int .i64 x.date, .int .i64 x.kind, .int .i64 x.of_, .string x.text, .slice ao5 x.lines.length cap5] 50)).alloc (.cells #[.int .i64 l.acc, .int .i64 l.amt, .int .i64 l.ptn] 56)).cell (p := ⟨w3.heap.size, 3, none⟩) (v := .int .i64 x.kind) (by go_simp); have x4 := ((hk5.alloc (.cells #[.int .i64 x.id, .int .i64 x.ent, .int .i64 x.date, .int .i64 x.kind, .int .i64 x.of_, .string x.text, .slice ao5 x.lines.length cap5] 50)).alloc (.cells #[.int .i64 l.acc, .int .i64 l.amt, .int .i64 l.ptn] 56)).cell (p := ⟨w3.heap.size, 4, none⟩) (v := .int .i64 x.of_) (by go_simp); have x5 := ((hk5.alloc (.cells #[.int .i64 x.id, .int .i64 x.ent, .int .i64 x.date, .int .i64 x.kind, .int .i64 x.of_, .string x.text, .slice ao5 x.lines.length cap5] 50)).alloc (.cells #[.int .i64 l.acc, .int .i64 l.amt, .int .i64 l.ptn] 56)).cell (p := ⟨w3.heap.size, 5, none⟩) (v := .string x.text) (by go_simp); have x6 := ((hk5.alloc (.cells #[.int .i64 x.id, .int .i64 x.ent, .int .i64 x.date, .int .i64 x.kind, .int .i64 x.of_, .string x.text, .slice ao5 x.lines.length cap5] 50)).alloc (.cells #[.int .i64 l.acc, .int .i64 l.amt, .int .i64 l.ptn] 56)).cell (p := ⟨w3.heap.size, 6, none⟩) (v := .slice ao3 x.lines.length cap3) (by go_simp); have l0 := ((hk5.alloc (.cells #[.int .i64 x.id, .int .i64 x.ent, .int .i64 x.date, .int .i64 x.kind, .int .i64 x.of_, .string x.text, .slice ao5 x.lines.length cap5] 50)).alloc (.cells #[.int .i64 l.acc, .int .i64 l.amt, .int .i64 l.ptn] 56)).cell (p := ⟨w3.heap.size + 1, 0, none⟩) (v := .int .i64 l.acc) (by go_simp); have l1 := ((hk5.alloc (.cells #[.int .i64 x.id, .int .i64 x.ent, .int .i64 x.date, .int .i64 x.kind, .int .i64 x.of_, .string x.text, .slice ao5 x.lines.length cap5] 50)).alloc (.cells #[.int .i64 l.acc, .int .i64 l.amt, .int .i64 l.ptn] 56)).cell (p := ⟨w3.heap.size + 1, 1, none⟩) (v := .int .i64 l.amt) (by go_simp); have l2 := ((hk5.alloc (.cells #[.int .i64 x.id, .int .i64 x.ent, .int .i64 x.date, .int .i64 x.kind, .int .i64 x.of_, .string x.text, .slice ao5 x.lines.length cap5] 50)).alloc (.cells #[.int .i64 l.acc, .int .i64 l.amt, .int .i64 l.ptn] 56)).cell (p := ⟨w3.heap.size + 1, 2, none⟩) (v := .int .i64 l.ptn) (by go_simp); have hz5 := hk5.size; simp only [World.size_alloc] at hz5; have HS5 := Lib.hid (hs5.keeps (((Keeps.refl w5).alloc (.cells #[.int .i64 x.id, .int .i64 x.ent, .int .i64 x.date, .int .i64 x.kind, .int .i64 x.of_, .string x.text, .slice ao5 x.lines.length cap5] 50)).alloc (.cells #[.int .i64 l.acc, .int .i64 l.amt, .int .i64 l.ptn] 56))); have HS45 := Lib.hid ((HS4.out.keeps hk5).keeps (((Keeps.refl w5).alloc (.cells #[.int .i64 x.id, .int .i64 x.ent, .int .i64 x.date, .int .i64 x.kind, .int .i64 x.of_, .string x.text, .slice ao5 x.lines.length cap5] 50)).alloc (.cells #[.int .i64 l.acc, .int .i64 l.amt, .int .i64 l.ptn] 56))); have K5 := Lib.hid (((K4.out.trans hk5).alloc (.cells #[.int .i64 x.id, .int .i64 x.ent, .int .i64 x.date, .int .i64 x.kind, .int .i64 x.of_, .string x.text, .slice ao5 x.lines.length cap5] 50)).alloc (.cells #[.int .i64 l.acc, .int .i64 l.amt, .int .i64 l.ptn] 56))) | (go_at_call 23; refine (samee_any x _ _ _ _ _ _ _ _ _ HS45.out HS5.out).mono ?_; rintro e w6 ⟨rfl, hk6⟩))
    go_ret
    exact ⟨rfl, K5.out.trans hk6⟩
end Go.Proofs.Ytfddhmhagijodaa
