/- Walks and plain facts that the claim rests on (LinkW, KeyL, MValidP, RMValidW, MValidW, RowsP). No condition. -/
import Derived.Test.YtoaidbhiciaeaaaGreatOr09
import Derived.Test.YtoaidbhiciaeaaaGreatOr07
import Derived.Test.YtoaidbhiciaeaaaGreatOr02
import Derived.Test.YtoaidbhiciaeaaaGreatOr05
import Derived.Deep.QuietTactic
import Derived.BigQuiet
import Derived.Test.YtoaidbhiciaeaaaGreatOr01
section
namespace Go.Proofs.YtoaidbhiciaeaaaGreat
open Go.RowKit
set_option linter.unusedSimpArgs false
set_option linter.unusedVariables false
def linkB (x c : List Acc) (l : Lnk) : Bool := match findA x l.frm, findA c l.to with
  | some a, some b => a.kind == b.kind && dateB l.since
  | _, _ => false
set_option maxRecDepth 100000 in
set_option maxHeartbeats 4000000 in
theorem link_any (nm cur : ByteArray) (jt : Bool) (x c : List Acc) (l : Lnk) (lv : Value) (ao : Option Addr) (cap b o : Nat) (ao2 : Option Addr) (cap2 b2 o2 : Nat) (w : World) (H : Accs w ao x cap b o) (H2 : Accs w ao2 c cap2 b2 o2) :
    Calls Tryz.prog 147 #[.agg #[.string nm, .string cur, .slice ao x.length cap, lv, .bool jt], .slice ao2 c.length cap2, .agg #[.int .i64 l.frm, .int .i64 l.to, .int .i64 l.since]] w fun e w' => e = .returned (.bool (linkB x c l)) ∧ Keeps w w' := by
  have HC := Lib.hid H
  have HD := Lib.hid H2
  have K0 : Hid (Keeps w ((w.alloc (.cells #[.string nm, .string cur, .slice ao x.length cap, lv, .bool jt] 106)).alloc (.cells #[.int .i64 l.frm, .int .i64 l.to, .int .i64 l.since] 162))) := Lib.hid (((Keeps.refl w).alloc _).alloc _)
  obtain ⟨a, ha⟩ : ∃ a, (findA x l.frm).getD Acc.zero = a := ⟨_, rfl⟩
  obtain ⟨p, hp⟩ : ∃ p, (findA x l.frm).isSome = p := ⟨_, rfl⟩
  obtain ⟨d, hd⟩ : ∃ d, (findA c l.to).getD Acc.zero = d := ⟨_, rfl⟩
  obtain ⟨q, hq⟩ : ∃ q, (findA c l.to).isSome = q := ⟨_, rfl⟩
  have HB : Hid (∀ W, Accs W ao2 c cap2 b2 o2 → Calls Tryz.prog 103 #[.slice ao2 c.length cap2, .int .i64 l.to] W fun e w' => e = .returned (.tuple #[.agg #[.int .i64 d.code, .int .i64 d.kind, .int .i64 d.basis, .int .i64 d.parent], .bool q]) ∧ Keeps W w') := Lib.hid (fun W h => by
    have := find_any c l.to ao2 cap2 b2 o2 W h
    unfold AccO at this
    rw [hd, hq] at this
    exact this)
  have HA : Hid (∀ W, Accs W ao x cap b o → Calls Tryz.prog 103 #[.slice ao x.length cap, .int .i64 l.frm] W fun e w' => e = .returned (.tuple #[.agg #[.int .i64 a.code, .int .i64 a.kind, .int .i64 a.basis, .int .i64 a.parent], .bool p]) ∧ Keeps W w') := Lib.hid (fun W h => by
    have := find_any x l.frm ao cap b o W h
    unfold AccO at this
    rw [ha, hp] at this
    exact this)
  have hfin : linkB x c l = (p && q && (a.kind == d.kind) && dateB l.since) := by
    unfold linkB
    subst ha hp hd hq
    cases findA x l.frm <;> cases findA c l.to <;> simp
  have HF := Lib.hid hfin
  clear hfin ha hd hp hq H H2
  cases p with
  | false =>
    go_enter Tryz.func147, Tryz.ntmps147
    go_wp2_with (first | (go_at_call 109; refine (date_any _ _).mono ?_; rintro e3 w3 ⟨rfl, rfl⟩) | (go_at_call 103; (with_reducible refine (HB.out _ (HD.out.keeps K1.out)).mono ?_); rintro e2 w2 ⟨rfl, hk2⟩; have f2 := hk2.cell p2; have hz3 := World.block_lt_of_cell? _ _ f2; have q1 := hk2.cell p1; have hz2 := World.block_lt_of_cell? _ _ q1; have K2 := Lib.hid (K1.out.trans hk2); clear hk2 p1 p2 g1 g2) | (go_at_call 103; (with_reducible refine (HA.out _ (HC.out.keeps K0.out)).mono ?_); rintro e1 w1 ⟨rfl, hk1⟩; have g1 := hk1.cell (p := ⟨w.heap.size + 1, 1, none⟩) (v := .int .i64 l.to) (by go_simp); have g2 := hk1.cell (p := ⟨w.heap.size + 1, 2, none⟩) (v := .int .i64 l.since) (by go_simp); have hz1 := World.block_lt_of_cell? _ _ g1; have p2 : (w1.alloc (.cells #[.int .i64 a.code, .int .i64 a.kind, .int .i64 a.basis, .int .i64 a.parent] 68)).cell? ⟨w.heap.size + 1, 2, none⟩ = some (.int .i64 l.since) := (by go_simp); have p1 : (w1.alloc (.cells #[.int .i64 a.code, .int .i64 a.kind, .int .i64 a.basis, .int .i64 a.parent] 68)).cell? ⟨w1.heap.size, 1, none⟩ = some (.int .i64 a.kind) := (by go_simp); have K1 := Lib.hid ((K0.out.trans hk1).alloc (.cells #[.int .i64 a.code, .int .i64 a.kind, .int .i64 a.basis, .int .i64 a.parent] 68)); clear hk1))
    go_ret
    rw [HF.out]
    exact ⟨rfl, K2.out.alloc _⟩
  | true =>
    cases q with
    | false =>
      go_enter Tryz.func147, Tryz.ntmps147
      go_wp2_with (first | (go_at_call 109; refine (date_any _ _).mono ?_; rintro e3 w3 ⟨rfl, rfl⟩) | (go_at_call 103; (with_reducible refine (HB.out _ (HD.out.keeps K1.out)).mono ?_); rintro e2 w2 ⟨rfl, hk2⟩; have f2 := hk2.cell p2; have hz3 := World.block_lt_of_cell? _ _ f2; have q1 := hk2.cell p1; have hz2 := World.block_lt_of_cell? _ _ q1; have K2 := Lib.hid (K1.out.trans hk2); clear hk2 p1 p2 g1 g2) | (go_at_call 103; (with_reducible refine (HA.out _ (HC.out.keeps K0.out)).mono ?_); rintro e1 w1 ⟨rfl, hk1⟩; have g1 := hk1.cell (p := ⟨w.heap.size + 1, 1, none⟩) (v := .int .i64 l.to) (by go_simp); have g2 := hk1.cell (p := ⟨w.heap.size + 1, 2, none⟩) (v := .int .i64 l.since) (by go_simp); have hz1 := World.block_lt_of_cell? _ _ g1; have p2 : (w1.alloc (.cells #[.int .i64 a.code, .int .i64 a.kind, .int .i64 a.basis, .int .i64 a.parent] 68)).cell? ⟨w.heap.size + 1, 2, none⟩ = some (.int .i64 l.since) := (by go_simp); have p1 : (w1.alloc (.cells #[.int .i64 a.code, .int .i64 a.kind, .int .i64 a.basis, .int .i64 a.parent] 68)).cell? ⟨w1.heap.size, 1, none⟩ = some (.int .i64 a.kind) := (by go_simp); have K1 := Lib.hid ((K0.out.trans hk1).alloc (.cells #[.int .i64 a.code, .int .i64 a.kind, .int .i64 a.basis, .int .i64 a.parent] 68)); clear hk1))
      go_ret
      rw [HF.out]
      exact ⟨rfl, K2.out.alloc _⟩
    | true =>
      cases hk : (a.kind == d.kind) with
      | false =>
        rw [hk] at HF
        go_enter Tryz.func147, Tryz.ntmps147
        go_wp2_with (first | (go_at_call 109; refine (date_any _ _).mono ?_; rintro e3 w3 ⟨rfl, rfl⟩) | (go_at_call 103; (with_reducible refine (HB.out _ (HD.out.keeps K1.out)).mono ?_); rintro e2 w2 ⟨rfl, hk2⟩; have f2 := hk2.cell p2; have hz3 := World.block_lt_of_cell? _ _ f2; have q1 := hk2.cell p1; have hz2 := World.block_lt_of_cell? _ _ q1; have K2 := Lib.hid (K1.out.trans hk2); clear hk2 p1 p2 g1 g2) | (go_at_call 103; (with_reducible refine (HA.out _ (HC.out.keeps K0.out)).mono ?_); rintro e1 w1 ⟨rfl, hk1⟩; have g1 := hk1.cell (p := ⟨w.heap.size + 1, 1, none⟩) (v := .int .i64 l.to) (by go_simp); have g2 := hk1.cell (p := ⟨w.heap.size + 1, 2, none⟩) (v := .int .i64 l.since) (by go_simp); have hz1 := World.block_lt_of_cell? _ _ g1; have p2 : (w1.alloc (.cells #[.int .i64 a.code, .int .i64 a.kind, .int .i64 a.basis, .int .i64 a.parent] 68)).cell? ⟨w.heap.size + 1, 2, none⟩ = some (.int .i64 l.since) := (by go_simp); have p1 : (w1.alloc (.cells #[.int .i64 a.code, .int .i64 a.kind, .int .i64 a.basis, .int .i64 a.parent] 68)).cell? ⟨w1.heap.size, 1, none⟩ = some (.int .i64 a.kind) := (by go_simp); have K1 := Lib.hid ((K0.out.trans hk1).alloc (.cells #[.int .i64 a.code, .int .i64 a.kind, .int .i64 a.basis, .int .i64 a.parent] 68)); clear hk1))
        go_ret
        rw [HF.out]
        exact ⟨rfl, K2.out.alloc _⟩
      | true =>
        rw [hk] at HF
        go_enter Tryz.func147, Tryz.ntmps147
        go_wp2_with (first | (go_at_call 109; refine (date_any _ _).mono ?_; rintro e3 w3 ⟨rfl, rfl⟩) | (go_at_call 103; (with_reducible refine (HB.out _ (HD.out.keeps K1.out)).mono ?_); rintro e2 w2 ⟨rfl, hk2⟩; have f2 := hk2.cell p2; have hz3 := World.block_lt_of_cell? _ _ f2; have q1 := hk2.cell p1; have hz2 := World.block_lt_of_cell? _ _ q1; have K2 := Lib.hid (K1.out.trans hk2); clear hk2 p1 p2 g1 g2) | (go_at_call 103; (with_reducible refine (HA.out _ (HC.out.keeps K0.out)).mono ?_); rintro e1 w1 ⟨rfl, hk1⟩; have g1 := hk1.cell (p := ⟨w.heap.size + 1, 1, none⟩) (v := .int .i64 l.to) (by go_simp); have g2 := hk1.cell (p := ⟨w.heap.size + 1, 2, none⟩) (v := .int .i64 l.since) (by go_simp); have hz1 := World.block_lt_of_cell? _ _ g1; have p2 : (w1.alloc (.cells #[.int .i64 a.code, .int .i64 a.kind, .int .i64 a.basis, .int .i64 a.parent] 68)).cell? ⟨w.heap.size + 1, 2, none⟩ = some (.int .i64 l.since) := (by go_simp); have p1 : (w1.alloc (.cells #[.int .i64 a.code, .int .i64 a.kind, .int .i64 a.basis, .int .i64 a.parent] 68)).cell? ⟨w1.heap.size, 1, none⟩ = some (.int .i64 a.kind) := (by go_simp); have K1 := Lib.hid ((K0.out.trans hk1).alloc (.cells #[.int .i64 a.code, .int .i64 a.kind, .int .i64 a.basis, .int .i64 a.parent] 68)); clear hk1))
        go_ret
        rw [HF.out]
        exact ⟨retb (by simp), K2.out.alloc _⟩
end Go.Proofs.YtoaidbhiciaeaaaGreat

end
section
namespace Go.Proofs.YtoaidbhiciaeaaaGreat
open Go.RowKit Go.Maps
theorem keyOf_link {a b c : Int} (ha : I64 a) (hb : I64 b) (hc : I64 c) : keyOf Tryz.prog 162 (.agg #[.int .i64 a, .int .i64 b, .int .i64 c]) = some (.string (keyBytes [.int .i64 a, .int .i64 b, .int .i64 c])) := by
  unfold keyOf
  rw [Tryz.underlying162]
  have h1 : Tryz.prog.keyType 162 = true := by kernel_rfl
  have h2 : (Value.agg #[.int .i64 a, .int .i64 b, .int .i64 c]).formed Tryz.prog 162 = true := by
    have : Tryz.prog.cellsOf 162 = 3 := by kernel_rfl
    simp [Value.formed, Tryz.underlying162, this]
  have hs : Tryz.prog.types.size = (Tryz.prog.types.size - 1) + 1 := by
    have : 0 < Tryz.prog.types.size := of_decide_eq_true (by kernel_rfl)
    omega
  have h3 : Tryz.prog.keyLits (Tryz.prog.types.size + 1) 162 [.int .i64 a, .int .i64 b, .int .i64 c] = some [.int .i64 a, .int .i64 b, .int .i64 c] := by
    have hi : ∀ d x, I64 x → Tryz.prog.keyLits (d + 1) 3 [.int .i64 x] = some [.int .i64 x] := fun d x h => keyLits_int Tryz.underlying3 h
    have c3 : Tryz.prog.cellsOf 162 = 3 := by kernel_rfl
    have c1 : Tryz.prog.cellsOf 3 = 1 := by kernel_rfl
    unfold Program.keyLits
    rw [Tryz.underlying162]
    rw [hs]
    simp [c3, c1, hi, ha, hb, hc]
  simp only [h1, h2, Bool.and_self, if_true]
  show (Tryz.prog.keyLits (Tryz.prog.types.size + 1) 162 [.int .i64 a, .int .i64 b, .int .i64 c]).map _ = _
  rw [h3]
  rfl
theorem linkKeyed : Keyed Tryz.prog 162 := Keyed.of_law (deep_law_laid laidOutK (m := 2) (by omega) (of_decide_eq_true (by kernel_rfl)) (by kernel_rfl) (by rw [Tryz.underlying162]))
def linkK : KeyEnc Tryz.prog 162 Lnk where
  enc l := .agg #[.int .i64 l.frm, .int .i64 l.to, .int .i64 l.since]
  lit l := .string (keyBytes [.int .i64 l.frm, .int .i64 l.to, .int .i64 l.since])
  ok l := I64 l.frm ∧ I64 l.to ∧ I64 l.since
  keyed := linkKeyed
  key l h := keyOf_link h.1 h.2.1 h.2.2
  inj a b _ _ h := by
    obtain ⟨a0, a1, a2⟩ := a
    obtain ⟨b0, b1, b2⟩ := b
    simpa using h
end Go.Proofs.YtoaidbhiciaeaaaGreat

end
section
namespace Go.Proofs.YtoaidbhiciaeaaaGreat
open Go.RowKit
set_option linter.unusedSimpArgs false
def keyL (l : Lnk) : Lnk := ⟨l.frm, 0, l.since⟩
def sameK (a b : Lnk) : Bool := a.frm == b.frm && a.since == b.since
def seenL (ls : List Lnk) : Lnk → Option Value := fun d => if ls.any (fun l => sameK l d) && d.to == 0 then some (.bool true) else none
theorem seenL_nil : seenL [] = fun _ => none := by funext d; simp [seenL]
theorem seenL_get (ls : List Lnk) (l : Lnk) : (seenL ls (keyL l)).getD (.bool false) = .bool (ls.any (fun a => sameK a l)) := by
  unfold seenL
  have : (ls.any fun a => sameK a (keyL l)) = ls.any (fun a => sameK a l) := rfl
  rw [this]
  cases ls.any (fun a => sameK a l) <;> simp [keyL]
theorem seenL_snoc (ls : List Lnk) (l : Lnk) : seenL (ls ++ [l]) (keyL l) = some (.bool true) ∧ ∀ d, d ≠ keyL l → seenL (ls ++ [l]) d = seenL ls d := by
  refine ⟨by simp [seenL, sameK, keyL], fun d hd => ?_⟩
  unfold seenL
  have : (sameK l d && d.to == 0) = false := by
    rw [Bool.eq_false_iff]
    intro h
    apply hd
    obtain ⟨d0, d1, d2⟩ := d
    simp only [sameK, Bool.and_eq_true, beq_iff_eq] at h
    simp [keyL, h]
  have h2 : ((ls ++ [l]).any (fun a => sameK a d) && d.to == 0) = (ls.any (fun a => sameK a d) && d.to == 0) := by
    rw [List.any_append]
    simp only [List.any_cons, List.any_nil, Bool.or_false]
    cases h3 : ls.any (fun a => sameK a d) <;> simp_all
  rw [h2]
def okL (x c : List Acc) (ls : List Lnk) (k : Nat) : Bool := match ls[k]? with
  | none => true
  | some l => !((ls.take k).any (fun a => sameK a l)) && linkB x c l
def mvalidB (en : Ent) (c : List Acc) : Bool := validRB c true && validRB en.chart false && decide (en.links.length ≤ 400) && (List.range en.links.length).all (okL en.chart c en.links)
theorem okL_at {x c : List Acc} {ls : List Lnk} {k : Nat} (hk : k < ls.length) : okL x c ls k = (!((ls.take k).any (fun a => sameK a ls[k])) && linkB x c ls[k]) := by
  unfold okL; rw [List.getElem?_eq_getElem hk]
theorem mvalidB_bad {en : Ent} {c : List Acc} {k : Nat} (hk : k < en.links.length) (h : okL en.chart c en.links k = false) : mvalidB en c = false := by
  unfold mvalidB
  rw [all_range_false hk h, Bool.and_false]
theorem mvalidB_good {en : Ent} {c : List Acc} (h1 : validRB c true = true) (h2 : validRB en.chart false = true) (h3 : en.links.length ≤ 400) (h : ∀ k < en.links.length, okL en.chart c en.links k = true) : mvalidB en c = true := by
  unfold mvalidB
  rw [h1, h2, decide_eq_true h3, List.all_eq_true.2 (fun k hk => h k (List.mem_range.1 hk))]
  rfl
theorem mvalidB_1 {en : Ent} {c : List Acc} (h : validRB c true = false) : mvalidB en c = false := by unfold mvalidB; rw [h]; rfl
theorem mvalidB_2 {en : Ent} {c : List Acc} (h : validRB en.chart false = false) : mvalidB en c = false := by unfold mvalidB; rw [h, Bool.and_false]; rfl
end Go.Proofs.YtoaidbhiciaeaaaGreat

end
section
namespace Go.Proofs.YtoaidbhiciaeaaaGreat
open Go.RowKit
set_option linter.unusedSimpArgs false
set_option linter.unusedVariables false
set_option maxRecDepth 100000 in
set_option maxHeartbeats 4000000 in
theorem mvalid_any (en : Ent) (v : Value) (c : List Acc) (ao : Option Addr) (cap b o : Nat) (w : World) (HE : EntV w v en) (H2 : Accs w ao c cap b o) (hc : c.length ≤ 200) (hx : en.chart.length ≤ 200) (hl : en.links.length ≤ 400)
    (hok : ∀ x ∈ c, I64 x.code ∧ I64 x.parent) (hok2 : ∀ x ∈ en.chart, I64 x.code ∧ I64 x.parent) (hok3 : ∀ x ∈ en.links, I64 x.frm ∧ I64 x.to ∧ I64 x.since) :
    Calls Tryz.prog 105 #[v, .slice ao c.length cap] w fun e w' => e = .returned (.bool (mvalidB en c)) ∧ Keeps w w' := by
  obtain ⟨cv, lv, rfl, ⟨aoC, capC, bC, oC, rfl, HC⟩, ⟨aoL, capL, bL, oL, rfl, HL⟩⟩ := HE
  have hleL := Sl.le HL
  have hcapL := Sl.cap HL
  have HC := Lib.hid HC
  have HL := Lib.hid HL
  have HC2 := Lib.hid H2
  have HO3 := Lib.hid hok3
  have hmm := @run_makeMap Tryz.prog
  have HV1 : Hid (∀ W, Accs W ao c cap b o → Calls Tryz.prog 98 #[.slice ao c.length cap, .bool true] W fun e w' => e = .returned (.bool (validRB c true)) ∧ Keeps W w') := Lib.hid (fun W h => by have := valid_any c true ao cap b o W h hc hok; rw [valid_eq] at this; exact this)
  have HV2 : Hid (∀ W, Accs W aoC en.chart capC bC oC → Calls Tryz.prog 98 #[.slice aoC en.chart.length capC, .bool false] W fun e w' => e = .returned (.bool (validRB en.chart false)) ∧ Keeps W w') := Lib.hid (fun W h => by have := valid_any en.chart false aoC capC bC oC W h hx hok2; rw [valid_eq] at this; exact this)
  clear H2 hok hok2 hok3
  cases h1 : validRB c true with
  | false =>
    have HF := Lib.hid (mvalidB_1 (en := en) h1)
    rw [h1] at HV1
    clear h1
    go_enter Tryz.func105, Tryz.ntmps105
    go_wp2_with (go_at_call 98; (with_reducible refine (HV1.out _ (HC2.out.keeps ((Keeps.refl w).alloc _))).mono ?_); rintro e1 w1 ⟨rfl, hk1⟩; have K1 := Lib.hid hk1; have b_0 := hk1.cell (p := ⟨w.heap.size, 0, none⟩) (v := .string en.name) (by go_simp); have b_1 := hk1.cell (p := ⟨w.heap.size, 1, none⟩) (v := .string en.cur) (by go_simp); have b_2 := hk1.cell (p := ⟨w.heap.size, 2, none⟩) (v := .slice aoC en.chart.length capC) (by go_simp); have b_3 := hk1.cell (p := ⟨w.heap.size, 3, none⟩) (v := .slice aoL en.links.length capL) (by go_simp); have b_4 := hk1.cell (p := ⟨w.heap.size, 4, none⟩) (v := .bool en.joint) (by go_simp); have hz1 := World.block_lt_of_cell? _ _ b_0; clear hk1)
    go_ret
    rw [HF.out]
    exact ⟨rfl, ((Keeps.refl w).alloc _).trans K1.out⟩
  | true =>
    rw [h1] at HV1
    have H1 := Lib.hid h1
    clear h1
    cases h2 : validRB en.chart false with
    | false =>
      have HF := Lib.hid (mvalidB_2 (c := c) h2)
      rw [h2] at HV2
      clear h2
      go_enter Tryz.func105, Tryz.ntmps105
      go_wp2_with (first | (go_at_call 98; (with_reducible refine (HV2.out _ (HC.out.keeps (((Keeps.refl w).alloc _).trans K1.out))).mono ?_); rintro e2 w2 ⟨rfl, hk2⟩; have c_3 := hk2.cell b_3; have hz2 := World.block_lt_of_cell? _ _ c_3; have K2 := Lib.hid (K1.out.trans hk2); clear hk2 b_0 b_1 b_2 b_3 b_4) | (go_at_call 98; (with_reducible refine (HV1.out _ (HC2.out.keeps ((Keeps.refl w).alloc _))).mono ?_); rintro e1 w1 ⟨rfl, hk1⟩; have K1 := Lib.hid hk1; have b_0 := hk1.cell (p := ⟨w.heap.size, 0, none⟩) (v := .string en.name) (by go_simp); have b_1 := hk1.cell (p := ⟨w.heap.size, 1, none⟩) (v := .string en.cur) (by go_simp); have b_2 := hk1.cell (p := ⟨w.heap.size, 2, none⟩) (v := .slice aoC en.chart.length capC) (by go_simp); have b_3 := hk1.cell (p := ⟨w.heap.size, 3, none⟩) (v := .slice aoL en.links.length capL) (by go_simp); have b_4 := hk1.cell (p := ⟨w.heap.size, 4, none⟩) (v := .bool en.joint) (by go_simp); have hz1 := World.block_lt_of_cell? _ _ b_0; clear hk1))
      go_ret
      rw [HF.out]
      exact ⟨rfl, ((Keeps.refl w).alloc _).trans K2.out⟩
    | true =>
      rw [h2] at HV2
      have H2 := Lib.hid h2
      clear h2
      go_enter Tryz.func105, Tryz.ntmps105
      go_wp2_with (first | (go_at_call 98; (with_reducible refine (HV2.out _ (HC.out.keeps (((Keeps.refl w).alloc _).trans K1.out))).mono ?_); rintro e2 w2 ⟨rfl, hk2⟩; have c_3 := hk2.cell b_3; have hz2 := World.block_lt_of_cell? _ _ c_3; have K2 := Lib.hid (K1.out.trans hk2); clear hk2 b_0 b_1 b_2 b_3 b_4) | (go_at_call 98; (with_reducible refine (HV1.out _ (HC2.out.keeps ((Keeps.refl w).alloc _))).mono ?_); rintro e1 w1 ⟨rfl, hk1⟩; have K1 := Lib.hid hk1; have b_0 := hk1.cell (p := ⟨w.heap.size, 0, none⟩) (v := .string en.name) (by go_simp); have b_1 := hk1.cell (p := ⟨w.heap.size, 1, none⟩) (v := .string en.cur) (by go_simp); have b_2 := hk1.cell (p := ⟨w.heap.size, 2, none⟩) (v := .slice aoC en.chart.length capC) (by go_simp); have b_3 := hk1.cell (p := ⟨w.heap.size, 3, none⟩) (v := .slice aoL en.links.length capL) (by go_simp); have b_4 := hk1.cell (p := ⟨w.heap.size, 4, none⟩) (v := .bool en.joint) (by go_simp); have hz1 := World.block_lt_of_cell? _ _ b_0; clear hk1))
      go_loopw [28] (fun vi wr => ∃ k : Nat, k ≤ en.links.length ∧ vi = .int .i64 k ∧ Hid (∀ j < k, okL en.chart c en.links j = true) ∧ Hid (Keeps (w.alloc (.cells #[.string en.name, .string en.cur, .slice aoC en.chart.length capC, .slice aoL en.links.length capL, .bool en.joint] 106)) wr ∧ VMap linkK wr w2.heap.size k (seenL (en.links.take k)))) (fun vi _ => en.links.length - (intOf vi).toNat)
      case atStart => exact ⟨0, Nat.zero_le _, rfl, Lib.hid (fun j hj => absurd hj (Nat.not_lt_zero _)), Lib.hid ⟨K2.out.alloc _, by rw [List.take_zero, seenL_nil]; exact VMap.made linkK w2⟩⟩
      case round =>
        obtain ⟨k, hk, rfl, HN, HW⟩ := hrel
        by_cases hlt : k < en.links.length
        · have KW := HW.out.1
          have HLr := HL.out.keeps (((Keeps.refl w).alloc _).trans KW)
          have hix := Sl.at HLr Tryz.underlying104 Tryz.sizeOf162 k hlt
          have l0 := HLr.cell Lnk.len k hlt 0 _ rfl
          have l1 := HLr.cell Lnk.len k hlt 1 _ rfl
          have l2 := HLr.cell Lnk.len k hlt 2 _ rfl
          simp only [Nat.add_zero] at l0
          have d_0 := KW.cell (p := ⟨w.heap.size, 0, none⟩) (v := .string en.name) (by go_simp); have d_1 := KW.cell (p := ⟨w.heap.size, 1, none⟩) (v := .string en.cur) (by go_simp); have d_2 := KW.cell (p := ⟨w.heap.size, 2, none⟩) (v := .slice aoC en.chart.length capC) (by go_simp); have d_3 := KW.cell (p := ⟨w.heap.size, 3, none⟩) (v := .slice aoL en.links.length capL) (by go_simp); have d_4 := KW.cell (p := ⟨w.heap.size, 4, none⟩) (v := .bool en.joint) (by go_simp)
          have hzr := World.block_lt_of_cell? _ _ d_0
          have hol := HO3.out _ (List.getElem_mem hlt)
          have hokl := okL_at (x := en.chart) (c := c) hlt
          have hkok : linkK.ok (keyL en.links[k]) := ⟨hol.1, (show I64 0 from ⟨by decide, by decide⟩), hol.2.2⟩
          have HM : Hid (VMap linkK ((wr.alloc (.cells #[.int .i64 en.links[k].frm, .int .i64 en.links[k].to, .int .i64 en.links[k].since] 162)).alloc (.cells #[.int .i64 en.links[k].frm, .int .i64 0, .int .i64 en.links[k].since] 162)) w2.heap.size k (seenL (en.links.take k))) := Lib.hid ((HW.out.2.alloc _).alloc _)
          have hlk : (Instr.lookup 205 (.map (some w2.heap.size)) (.agg #[.int .i64 en.links[k].frm, .int .i64 0, .int .i64 en.links[k].since]) false).run Tryz.prog ((wr.alloc (.cells #[.int .i64 en.links[k].frm, .int .i64 en.links[k].to, .int .i64 en.links[k].since] 162)).alloc (.cells #[.int .i64 en.links[k].frm, .int .i64 0, .int .i64 en.links[k].since] 162)) = .ok (.bool ((en.links.take k).any (fun a => sameK a en.links[k]))) ((wr.alloc (.cells #[.int .i64 en.links[k].frm, .int .i64 en.links[k].to, .int .i64 en.links[k].since] 162)).alloc (.cells #[.int .i64 en.links[k].frm, .int .i64 0, .int .i64 en.links[k].since] 162)) := by
            have := HM.out.look Tryz.underlying205 (fun w => Tryz.zeroValue4 w) hkok _ rfl
            rw [seenL_get] at this
            exact this
          clear KW HLr hol
          cases hs : (en.links.take k).any (fun a => sameK a en.links[k]) with
          | true =>
            rw [hs] at hlk hokl
            have HB := Lib.hid (mvalidB_bad hlt hokl)
            clear hs hokl
            go_wp2_with fail
            go_ret
            rw [HB.out]
            exact ⟨rfl, ((Keeps.refl w).alloc _).trans ((HW.out.1.alloc _).alloc _)⟩
          | false =>
            rw [hs] at hlk hokl
            have HLK : Hid (∀ W, Accs W aoC en.chart capC bC oC → Accs W ao c cap b o → Calls Tryz.prog 147 #[.agg #[.string en.name, .string en.cur, .slice aoC en.chart.length capC, .slice aoL en.links.length capL, .bool en.joint], .slice ao c.length cap, .agg #[.int .i64 en.links[k].frm, .int .i64 en.links[k].to, .int .i64 en.links[k].since]] W fun e w' => e = .returned (.bool (linkB en.chart c en.links[k])) ∧ Keeps W w') := Lib.hid (fun W h h' => link_any en.name en.cur en.joint en.chart c en.links[k] _ aoC capC bC oC ao cap b o W h h')
            clear hs
            cases hlb : linkB en.chart c en.links[k] with
            | false =>
              rw [hlb] at hokl HLK
              have HB := Lib.hid (mvalidB_bad hlt hokl)
              clear hokl hlb
              go_wp2_with (go_at_call 147; (with_reducible refine (HLK.out _ (HC.out.keeps (((Keeps.refl w).alloc _).trans ((HW.out.1.alloc _).alloc _))) (HC2.out.keeps (((Keeps.refl w).alloc _).trans ((HW.out.1.alloc _).alloc _)))).mono ?_); rintro e3 w3 ⟨rfl, hk3⟩; have K3 := Lib.hid hk3; clear hk3)
              go_ret
              rw [HB.out]
              exact ⟨rfl, ((Keeps.refl w).alloc _).trans (((HW.out.1.alloc _).alloc _).trans K3.out)⟩
            | true =>
              rw [hlb] at hokl HLK
              have HOK := Lib.hid hokl
              clear hokl hlb
              have hml := HM.out.lt
              go_wp2_with (first | (go_at_call 147; (with_reducible refine (HLK.out _ (HC.out.keeps (((Keeps.refl w).alloc _).trans ((HW.out.1.alloc _).alloc _))) (HC2.out.keeps (((Keeps.refl w).alloc _).trans ((HW.out.1.alloc _).alloc _)))).mono ?_); rintro e3 w3 ⟨rfl, hk3⟩; have x0 := hk3.cell (p := ⟨wr.heap.size + 1, 0, none⟩) (v := .int .i64 en.links[k].frm) (by go_simp); have x1 := hk3.cell (p := ⟨wr.heap.size + 1, 1, none⟩) (v := .int .i64 0) (by go_simp); have x2 := hk3.cell (p := ⟨wr.heap.size + 1, 2, none⟩) (v := .int .i64 en.links[k].since) (by go_simp); have K3 := Lib.hid hk3; have HM3 := Lib.hid (HM.out.keeps hk3); clear hk3) | (refine wpList_vstore (K := linkK) rfl _ _ _ 205 rfl Tryz.underlying205 w2.heap.size k rfl HM3.out (by unfold maxLen; omega) (keyL en.links[k]) hkok rfl (.bool true) rfl (seenL (en.links.take (k + 1))) (by rw [take_snoc _ _ hlt]; exact (seenL_snoc _ _).1) (fun d _ hd => by rw [take_snoc _ _ hlt]; exact (seenL_snoc _ _).2 d hd) ?_; intro w4 hm4 hg4; have HX : Hid (Keeps (w.alloc (.cells #[.string en.name, .string en.cur, .slice aoC en.chart.length capC, .slice aoL en.links.length capL, .bool en.joint] 106)) w4 ∧ VMap linkK w4 w2.heap.size (k + 1) (seenL (en.links.take (k + 1)))) := Lib.hid ⟨Below.grown (((HW.out.1.alloc _).alloc _).trans K3.out) hg4 (((HW.out.1.alloc _).alloc _).trans K3.out).size (fun j hj => by cases hj; exact K2.out.size), hm4⟩; clear hm4 hg4))
              go_roundw
              case rel => exact ⟨k + 1, by omega, by go_num, Lib.hid (fun j hj => by
                rcases Nat.lt_succ_iff_lt_or_eq.1 hj with h | rfl
                · exact HN.out j h
                · exact HOK.out), HX⟩
              case measure => simp [intOf]; omega
        · obtain rfl : k = en.links.length := by omega
          have HB := Lib.hid (mvalidB_good H1.out H2.out hl HN.out)
          go_wp2_with fail
          go_ret
          rw [HB.out]
          exact ⟨rfl, ((Keeps.refl w).alloc _).trans HW.out.1⟩
end Go.Proofs.YtoaidbhiciaeaaaGreat

end
section
namespace Go.Proofs.YtoaidbhiciaeaaaGreat
open Go.RowKit
set_option linter.unusedSimpArgs false
set_option linter.unusedVariables false
def RowVs (w : World) (vs : List Value) (ls : List (List Int)) : Prop := vs.length = ls.length ∧ ∀ i (h : i < vs.length) (h2 : i < ls.length), IntL w vs[i] ls[i]
theorem RowVs.keeps {w w' : World} {vs : List Value} {ls : List (List Int)} (h : RowVs w vs ls) (k : Keeps w w') : RowVs w' vs ls := ⟨h.1, fun i h1 h2 => (h.2 i h1 h2).keeps k⟩
theorem RowVs.nil (w : World) : RowVs w [] [] := ⟨rfl, fun i h => absurd h (Nat.not_lt_zero _)⟩
theorem RowVs.snoc {w : World} {vs : List Value} {ls : List (List Int)} {v : Value} {l : List Int} (h : RowVs w vs ls) (hv : IntL w v l) : RowVs w (vs ++ [v]) (ls ++ [l]) := by
  refine ⟨by simp [h.1], fun i h1 h2 => ?_⟩
  simp only [List.length_append, List.length_cons, List.length_nil] at h1
  by_cases hi : i < vs.length
  · have h3 : i < ls.length := by rw [← h.1]; exact hi
    rw [List.getElem_append_left hi, List.getElem_append_left h3]
    exact h.2 i hi h3
  · obtain rfl : i = vs.length := by omega
    have e1 : (vs ++ [v])[vs.length]'(by simp) = v := by simp
    have e2 : (ls ++ [l])[vs.length]'(by simp [h.1]) = l := by simp [h.1]
    rw [e1, e2]
    exact hv
theorem IntL.one {w : World} {v : Value} {xs : List Int} (h : IntL w v xs) : v.oneCell' = true := by obtain ⟨ao, cap, b, o, rfl, _⟩ := h; rfl
theorem RowVs.ones {w : World} {vs : List Value} {ls : List (List Int)} (h : RowVs w vs ls) : ∀ u ∈ vs, u.oneCell' = true := fun u hu => by
  obtain ⟨i, hi, rfl⟩ := List.getElem_of_mem hu
  exact (h.2 i hi (by rw [← h.1]; exact hi)).one
def Rows (w : World) (ao : Option Addr) (ls : List (List Int)) (cap b o : Nat) : Prop := ∃ vs, Sl w 1 ao ls.length cap b o vs ∧ RowVs w vs ls
theorem Rows.keeps {w w' : World} {ao : Option Addr} {ls : List (List Int)} {cap b o : Nat} (h : Rows w ao ls cap b o) (k : Keeps w w') : Rows w' ao ls cap b o := by
  obtain ⟨vs, h1, h2⟩ := h
  exact ⟨vs, h1.keeps k, h2.keeps k⟩
theorem Rows.nil (w : World) : Rows w none [] 0 0 0 := ⟨[], Sl.nil _ _, RowVs.nil w⟩
theorem Rows.le {w : World} {ao : Option Addr} {ls : List (List Int)} {cap b o : Nat} (h : Rows w ao ls cap b o) : ls.length ≤ cap := by obtain ⟨vs, h1, _⟩ := h; exact h1.le
theorem Rows.cap {w : World} {ao : Option Addr} {ls : List (List Int)} {cap b o : Nat} (h : Rows w ao ls cap b o) : cap ≤ 9223372036854775807 := by obtain ⟨vs, h1, _⟩ := h; exact h1.cap
theorem Rows.at {w : World} {ao : Option Addr} {ls : List (List Int)} {cap b o : Nat} (h : Rows w ao ls cap b o) (k : Nat) (hk : k < ls.length) :
    ∃ ao2 cap2 b2 o2, w.cell? ⟨b, o + k, none⟩ = some (.slice ao2 (ls[k]).length cap2) ∧ Sl w 1 ao2 (ls[k]).length cap2 b2 o2 ((ls[k]).map (.int .i64)) := by
  obtain ⟨vs, h1, h2⟩ := h
  have hk2 : k < vs.length := by rw [h2.1]; exact hk
  obtain ⟨ao2, cap2, b2, o2, e, hs⟩ := h2.2 k hk2 hk
  exact ⟨ao2, cap2, b2, o2, by rw [← e]; exact h1.cell k _ (List.getElem?_eq_getElem hk2), hs⟩
theorem Rows.at1 {P : Program} {t e : TypeId} {w : World} {ao : Option Addr} {ls : List (List Int)} {cap b o : Nat} (H : Rows w ao ls cap b o) (ht : P.underlying t = some (.slice e)) (hz : ∀ w, (sizeOf e).run P w = .ok 1 w)
    (k : Nat) (hk : k < ls.length) : ∀ w', (Instr.indexAt t (.slice ao ls.length cap) (.int .i64 (k : Int))).run P w' = .ok (.pointer (some ⟨b, o + k, none⟩)) w' := by
  obtain ⟨vs, h1, _⟩ := H
  exact h1.at1 ht hz k hk
theorem Rows.own {w : World} {base e : Nat} {v : Value} {vs : List Value} {ls : List (List Int)} (h : w.ownsRow base e 1 v ls.length vs) (h2 : RowVs w vs ls) : ∃ ao cap b, v = .slice ao ls.length cap ∧ Rows w ao ls cap b 0 := by
  obtain ⟨ao, cap, b, rfl, hs⟩ := Sl.own h
  exact ⟨ao, cap, b, rfl, vs, hs, h2⟩
theorem wpList_app_rawR {P : Program} {w : World} {ops : Array Oper} {rest : List Oper} {o : Oper} {a : Act} {Q : Exit → Act → World → Prop} {t e : TypeId} {z : Value} {size bytes : Nat}
    (E : ElemOf P t e z size bytes) (hgd : o.guard = none) (s x : Operand) (ho : o.op = .call { callee := .builtin .append, args := #[s, x], argTypes := #[t, t] })
    (v : Value) (n : Nat) (xs : List Value) (hs : a.eval s = v) (base : Nat) (hown : w.ownsRow base e size v n xs) (hbase : base ≤ w.heap.size)
    (news : List Value) (bx c : Nat) (hx : a.eval x = .slice (some ⟨bx, 0, none⟩) 1 c) (hbx : bx = w.heap.size) (hl : news.length = size) (h1 : ∀ u ∈ news, u.oneCell' = true) (hbytes : (n + 1) * bytes ≤ 140737488355328) (h63 : n + 1 ≤ 9223372036854775807)
    (h : ∀ v' w', w'.ownsRow base e size v' (n + 1) (xs ++ news) → (w.alloc (.cells news.toArray e)).grownBy w' v.ownBlock → (v'.ownBlock = v.ownBlock ∨ v'.ownBlock = some (w.heap.size + 1)) → wpList P ops Q rest (a.put o.dst v') w') :
    wpList P ops Q (o :: rest) a (w.alloc (.cells news.toArray e)) := by
  subst hbx
  obtain ⟨i0, hi, hz0, hz1, hz2⟩ := info_parts E.info
  refine wpList_append_own_at _ hgd s x t ho base e i0 z size bytes E.ht hi hz0 hz1 hz2 E.zs E.sz v n xs hs (hown.alloc _) ⟨w.heap.size, 0, none⟩ 1 c news hx (by omega) ?_ h1 (by unfold maxLen; omega) hbytes (by simp; omega) ?_
  · intro j u hj
    rw [Addr.add_lit, Nat.zero_add, cell_of_row (w.alloc (.cells news.toArray e)) w.heap.size j news.toArray e (0, 0) (heap_alloc_new w _)]
    simpa using hj
  · intro v' w' hown' hgrow _ hat
    exact h v' w' hown' hgrow (by simpa using hat)
theorem IntL.grown {w w' : World} {v : Value} {xs : List Int} {g : Option Nat} (h : IntL w v xs) (hg : w.grownBy w' g) (hs : v.ownBlock = none ∨ v.ownBlock ≠ g) (hlt : ∀ b, v.ownBlock = some b → b < w.heap.size) : IntL w' v xs := by
  obtain ⟨ao, cap, b, o, rfl, hs2⟩ := h
  refine ⟨ao, cap, b, o, rfl, hs2.len, hs2.le, hs2.nocap, hs2.cap, hs2.addr, fun j u hu => ?_⟩
  have hn : 0 < xs.length := by
    rcases Nat.eq_zero_or_pos xs.length with h0 | h0
    · rw [List.eq_nil_of_length_eq_zero h0] at hu; simp at hu
    · exact h0
  have ha := hs2.addr hn
  subst ha
  have hne : some b ≠ g := by
    rcases hs with hs | hs
    · cases hs
    · exact hs
  exact hg.cell (hs2.cell j u hu) hne
def RowsG (w : World) (g : Option Nat) (vs : List Value) (ls : List (List Int)) : Prop := RowVs w vs ls ∧ ∀ u ∈ vs, (u.ownBlock = none ∨ u.ownBlock ≠ g) ∧ ∀ b, u.ownBlock = some b → b < w.heap.size
theorem RowsG.nil (w : World) (g : Option Nat) : RowsG w g [] [] := ⟨RowVs.nil w, fun u hu => absurd hu (by simp)⟩
theorem RowsG.keeps {w w' : World} {g : Option Nat} {vs : List Value} {ls : List (List Int)} (h : RowsG w g vs ls) (k : Keeps w w') : RowsG w' g vs ls :=
  ⟨h.1.keeps k, fun u hu => ⟨(h.2 u hu).1, fun b hb => Nat.lt_of_lt_of_le ((h.2 u hu).2 b hb) k.size⟩⟩
theorem RowsG.grown {w w' : World} {g g' : Option Nat} {vs : List Value} {ls : List (List Int)} (h : RowsG w g vs ls) (hg : w.grownBy w' g) (hat : g' = g ∨ g' = some w.heap.size) : RowsG w' g' vs ls := by
  refine ⟨⟨h.1.1, fun i h1 h2 => (h.1.2 i h1 h2).grown hg (h.2 _ (List.getElem_mem h1)).1 (h.2 _ (List.getElem_mem h1)).2⟩, fun u hu => ⟨?_, fun b hb => Nat.lt_of_lt_of_le ((h.2 u hu).2 b hb) hg.size⟩⟩
  rcases hat with rfl | rfl
  · exact (h.2 u hu).1
  · cases hb : u.ownBlock with
    | none => exact .inl rfl
    | some b =>
      right
      have := (h.2 u hu).2 b hb
      simp
      omega
theorem RowsG.snoc {w : World} {g : Option Nat} {vs : List Value} {ls : List (List Int)} {u : Value} {l : List Int} (h : RowsG w g vs ls) (hu : IntL w u l) (hs : u.ownBlock = none ∨ u.ownBlock ≠ g) (hlt : ∀ b, u.ownBlock = some b → b < w.heap.size) : RowsG w g (vs ++ [u]) (ls ++ [l]) := by
  refine ⟨h.1.snoc hu, fun x hx => ?_⟩
  rcases List.mem_append.1 hx with hx | hx
  · exact h.2 x hx
  · simp only [List.mem_singleton] at hx
    subst hx
    exact ⟨hs, hlt⟩
theorem wpList_app_row {P : Program} {w : World} {ops : Array Oper} {rest : List Oper} {o : Oper} {a : Act} {Q : Exit → Act → World → Prop} {t e : TypeId} {z : Value} {bytes : Nat}
    (E : ElemOf P t e z 1 bytes) (hgd : o.guard = none) (s x : Operand) (ho : o.op = .call { callee := .builtin .append, args := #[s, x], argTypes := #[t, t] })
    (w0 : World) (v : Value) (n : Nat) (vs : List Value) (hs : a.eval s = v) (base : Nat) (hown : w.ownsRow base e 1 v n vs) (hb : Below base w0 w) (hbase : base ≤ w.heap.size)
    (ls : List (List Int)) (hr : RowsG w v.ownBlock vs ls) (u : Value) (l : List Int) (hu : IntL w u l) (hsep : u.ownBlock = none ∨ u.ownBlock ≠ v.ownBlock) (hlt : ∀ b, u.ownBlock = some b → b < w.heap.size)
    (bx c : Nat) (hx : a.eval x = .slice (some ⟨bx, 0, none⟩) 1 c) (hbx : bx = w.heap.size) (hbytes : (n + 1) * bytes ≤ 140737488355328) (h63 : n + 1 ≤ 9223372036854775807)
    (h : ∀ v' w', w'.ownsRow base e 1 v' (n + 1) (vs ++ [u]) → RowsG w' v'.ownBlock (vs ++ [u]) (ls ++ [l]) → Below base w0 w' → base ≤ w'.heap.size → wpList P ops Q rest (a.put o.dst v') w') :
    wpList P ops Q (o :: rest) a (w.alloc (.cells #[u] e)) := by
  refine wpList_app_rawR E hgd s x ho v n vs hs base hown hbase [u] bx c hx hbx rfl (by intro y hy; simp only [List.mem_singleton] at hy; subst hy; exact hu.one) hbytes h63 ?_
  intro v' w' hown' hg hat
  have hk : Keeps w (w.alloc (.cells #[u] e)) := (Keeps.refl w).alloc _
  refine h v' w' hown' (RowsG.grown ((hr.snoc hu hsep hlt).keeps hk) hg (by simpa using hat)) ((hb.alloc hbase _).grown hg (by simp; omega) (fun k hk => (hown.lt k hk).1)) (Nat.le_trans hbase (Nat.le_trans (by simp) hg.size))
theorem sep_new {w wo : World} {base e1 e2 s1 s2 n1 n2 : Nat} {v u : Value} {xs ys : List Value} (hv : wo.ownsRow base e1 s1 v n1 xs) (hu : w.ownsRow wo.heap.size e2 s2 u n2 ys) : (u.ownBlock = none ∨ u.ownBlock ≠ v.ownBlock) ∧ ∀ b, u.ownBlock = some b → b < w.heap.size := by
  refine ⟨?_, fun b hb => (hu.lt b hb).2⟩
  cases hb : u.ownBlock with
  | none => exact .inl rfl
  | some b =>
    right
    intro e
    have h1 := (hu.lt b hb).1
    have h2 := (hv.lt b e.symm).2
    omega
def OutRows (w : World) (r : List (List Int) × Int) (e : Ending) (w' : World) : Prop := ∃ ao cap b o, e = .returned (.tuple #[.slice ao r.1.length cap, .int .i64 r.2]) ∧ Rows w' ao r.1 cap b o ∧ Keeps w w'
theorem OutRows.nil {w w' : World} {r : List (List Int) × Int} {er : Int} (h : r = ([], er)) (hk : Keeps w w') : OutRows w r (.returned (.tuple #[.slice none 0 0, .int .i64 er])) w' := by
  subst h; exact ⟨none, 0, 0, 0, rfl, Rows.nil _, hk⟩
end Go.Proofs.YtoaidbhiciaeaaaGreat

end
