/- MappingOrder: the walk. -/
import Derived.Test.YtppjjmjdiccloabMOrdP
import Derived.Test.YtppjjmjdiccloabLawLater
import Derived.Test.YtppjjmjdiccloabLawMove
import Derived.Test.YtppjjmjdiccloabMValidW
import Derived.Test.YtppjjmjdiccloabRMValidW
import Derived.Deep.RegionHeld3
import Derived.Deep.DrawnRows
namespace Go.Proofs.Ytppjjmjdiccloab
open Go.RowKit
set_option linter.unusedSimpArgs false
set_option linter.unusedVariables false

/-- The box of the copy: the entity with other links. -/
structure YB (W : World) (Y : Nat) (en : Ent) (aoC : Option Addr) (capC : Nat) (v : Value) : Prop where
  c0 : W.cell? ⟨Y, 0, none⟩ = some (.string en.name)
  c1 : W.cell? ⟨Y, 1, none⟩ = some (.string en.cur)
  c2 : W.cell? ⟨Y, 2, none⟩ = some (.slice aoC en.chart.length capC)
  c3 : W.cell? ⟨Y, 3, none⟩ = some v
  c4 : W.cell? ⟨Y, 4, none⟩ = some (.bool en.joint)
  f3 : W.frozen? ⟨Y, 3, none⟩ = false
theorem YB.made (w3 : World) (en : Ent) (aoC : Option Addr) (capC : Nat) : YB (w3.alloc (.cells #[.string en.name, .string en.cur, .slice aoC en.chart.length capC, .slice none 0 0, .bool en.joint] 25)) w3.heap.size en aoC capC (.slice none 0 0) :=
  ⟨by go_simp, by go_simp, by go_simp, by go_simp, by go_simp, by go_simp⟩
theorem YB.below {W W' : World} {Y : Nat} {en : Ent} {aoC : Option Addr} {capC : Nat} {v : Value} (h : YB W Y en aoC capC v) (hb : Below (Y + 1) W W') : YB W' Y en aoC capC v :=
  ⟨(hb.cell (p := ⟨Y, 0, none⟩) (Nat.lt_succ_self _)).trans h.c0, (hb.cell (p := ⟨Y, 1, none⟩) (Nat.lt_succ_self _)).trans h.c1, (hb.cell (p := ⟨Y, 2, none⟩) (Nat.lt_succ_self _)).trans h.c2, (hb.cell (p := ⟨Y, 3, none⟩) (Nat.lt_succ_self _)).trans h.c3, (hb.cell (p := ⟨Y, 4, none⟩) (Nat.lt_succ_self _)).trans h.c4, (hb.frozen (p := ⟨Y, 3, none⟩) (Nat.lt_succ_self _)).trans h.f3⟩
theorem Keeps.trans' {a b c : World} {B : Nat} (h : Keeps a b) (k : Below B b c) (hB : a.heap.size ≤ B) : Keeps a c := Below.trans h (k.mono hB)
theorem YB.keeps {W W' : World} {Y : Nat} {en : Ent} {aoC : Option Addr} {capC : Nat} {v : Value} (h : YB W Y en aoC capC v) (k : Keeps W W') : YB W' Y en aoC capC v :=
  ⟨k.cell h.c0, k.cell h.c1, k.cell h.c2, k.cell h.c3, k.cell h.c4, k.frz h.c3 h.f3⟩
theorem turn_step {W : World} {base q : Nat} {ls : List Lnk} {t : TypeId} {v : Value} (hq : q < ls.length) (h : W.ownsRow base t 3 v (ls.length - (q + 1) + 1) ((ls.drop (q + 1)).reverse.flatMap Lnk.cells ++ [.int .i64 ls[q].frm, .int .i64 ls[q].to, .int .i64 ls[q].since])) :
    W.ownsRow base t 3 v (ls.length - q) ((ls.drop q).reverse.flatMap Lnk.cells) := by
  have e : (ls.drop q).reverse.flatMap Lnk.cells = (ls.drop (q + 1)).reverse.flatMap Lnk.cells ++ [.int .i64 ls[q].frm, .int .i64 ls[q].to, .int .i64 ls[q].since] := by
    rw [List.drop_eq_getElem_cons hq, List.reverse_cons, List.flatMap_append]
    rfl
  rw [e, show ls.length - q = ls.length - (q + 1) + 1 from by omega]
  exact h
/-- q links are left to be copied. -/
def TurnW (w3 wr : World) (en : Ent) (aoC : Option Addr) (capC : Nat) (q : Nat) : Prop :=
  ∃ v, Keeps w3 wr ∧ w3.heap.size + 1 ≤ wr.heap.size ∧ YB wr w3.heap.size en aoC capC v ∧ wr.ownsRow (w3.heap.size + 1) 39 3 v (en.links.length - q) ((en.links.drop q).reverse.flatMap Lnk.cells)
set_option maxRecDepth 100000 in
set_option maxHeartbeats 8000000 in
theorem lawMOrd_any (en : Ent) (aoC : Option Addr) (capC bC oC : Nat) (aoL : Option Addr) (capL bL oL : Nat) (code day : Int) (c : List Acc) (l : List Bal) (aoA : Option Addr) (capA bA oA : Nat) (ao : Option Addr) (cap b o : Nat) (w : World) (HC : Accs w aoC en.chart capC bC oC) (HL : Lnks w aoL en.links capL bL oL) (OK : en.Ok) (H2 : Accs w aoA c capA bA oA) (OK2 : ∀ a ∈ c, a.Ok) (H : Bals w ao l cap b o) :
    Calls Try.prog 8 #[.agg #[.string en.name, .string en.cur, .slice aoC en.chart.length capC, .slice aoL en.links.length capL, .bool en.joint, .int .i64 code, .int .i64 day], .slice aoA c.length capA, .slice ao l.length cap] w fun e w' => e = .returned (.bool true) ∧ Keeps w w' := by
  have HV : Hid (EntV w (.agg #[.string en.name, .string en.cur, .slice aoC en.chart.length capC, .slice aoL en.links.length capL, .bool en.joint]) en) := Lib.hid ⟨_, _, rfl, ⟨aoC, capC, bC, oC, rfl, HC⟩, ⟨aoL, capL, bL, oL, rfl, HL⟩⟩
  have HA := Lib.hid H2
  have HB := Lib.hid H
  have hcap := Sl.cap H
  have hle := Sl.le H
  have hcapA := Sl.cap H2
  have hleA := Sl.le H2
  have hcapL := Sl.cap HL
  have hleL := Sl.le HL
  have HLL := Lib.hid HL
  have HCC := Lib.hid HC
  obtain ⟨fw, hfw⟩ : ∃ fw, fewB en = fw := ⟨_, rfl⟩
  have HF : Hid (∀ W, EntV W (.agg #[.string en.name, .string en.cur, .slice aoC en.chart.length capC, .slice aoL en.links.length capL, .bool en.joint]) en → Calls Try.prog 10 #[.agg #[.string en.name, .string en.cur, .slice aoC en.chart.length capC, .slice aoL en.links.length capL, .bool en.joint]] W fun e w' => e = .returned (.bool fw) ∧ Keeps W w') := Lib.hid (fun W h => by have := few_any en _ W h; rw [hfw] at this; exact this)
  cases fw with
  | false =>
    clear HC HL OK hfw H H2 OK2
    go_enter Try.func8, Try.ntmps8
    go_wp2_with (first | (go_at_call 10; refine (HF.out _ (HV.out.keeps HK1.out)).mono ?_; rintro e w2 ⟨rfl, hk2⟩; have HK2 := Lib.hid (HK1.out.trans hk2); have B2 := Lib.hid (B1.out.keeps hk2); clear c0 c1 c2 c3 c4 c5 c6; obtain ⟨c0, c1, c2, c3, c4, c5, c6⟩ := B2.out; clear hk2) | (go_at_call 9; refine (awake_any _).mono ?_; rintro e w1 ⟨rfl, hk1⟩; have HK1 := Lib.hid (((Keeps.refl w).alloc (.cells #[.string en.name, .string en.cur, .slice aoC en.chart.length capC, .slice aoL en.links.length capL, .bool en.joint, .int .i64 code, .int .i64 day] 37)).trans hk1); have B1 : Hid (CaseB w1 w.heap.size en aoC capC aoL capL code day) := Lib.hid (CaseB.keeps ⟨by go_simp, by go_simp, by go_simp, by go_simp, by go_simp, by go_simp, by go_simp⟩ hk1); obtain ⟨c0, c1, c2, c3, c4, c5, c6⟩ := B1.out; clear hk1))
    go_ret
    exact ⟨rfl, HK2.out⟩
  | true =>
    obtain ⟨h1, h2⟩ := fewB_true hfw
    by_cases hcl : c.length ≤ 60
    · have hcl2 : decide ((60 : Int) < (c.length : Int)) = false := decide_eq_false (by omega)
      by_cases hll : l.length ≤ 60
      · have hll2 : decide ((60 : Int) < (l.length : Int)) = false := decide_eq_false (by omega)
        obtain ⟨mv, hmv⟩ : ∃ mv, mvalidB en c = mv := ⟨_, rfl⟩
        have HN : Hid (∀ W, EntV W (.agg #[.string en.name, .string en.cur, .slice aoC en.chart.length capC, .slice aoL en.links.length capL, .bool en.joint]) en → Accs W aoA c capA bA oA → Calls Try.prog 12 #[.agg #[.string en.name, .string en.cur, .slice aoC en.chart.length capC, .slice aoL en.links.length capL, .bool en.joint], .slice aoA c.length capA] W fun e w' => e = .returned (.bool mv) ∧ Keeps W w') := Lib.hid (fun W h h' => by
          have := rmvalid_any en _ c aoA capA bA oA W h h' (by omega) (by omega) (by omega)
          rw [hmv] at this; exact this)
        cases mv with
        | false =>
          clear HC HL OK hfw H H2 hmv OK2
          go_enter Try.func8, Try.ntmps8
          go_wp2_with (first | (go_at_call 12; refine (HN.out _ (HV.out.keeps HK2.out) (HA.out.keeps HK2.out)).mono ?_; rintro e w3 ⟨rfl, hk3⟩; have HK3 := Lib.hid (HK2.out.trans hk3); have B3 := Lib.hid (B2.out.keeps hk3); clear c0 c1 c2 c3 c4 c5 c6; obtain ⟨c0, c1, c2, c3, c4, c5, c6⟩ := B3.out; have hbw := World.block_lt_of_cell? _ _ c0; clear hk3) | (go_at_call 10; refine (HF.out _ (HV.out.keeps HK1.out)).mono ?_; rintro e w2 ⟨rfl, hk2⟩; have HK2 := Lib.hid (HK1.out.trans hk2); have B2 := Lib.hid (B1.out.keeps hk2); clear c0 c1 c2 c3 c4 c5 c6; obtain ⟨c0, c1, c2, c3, c4, c5, c6⟩ := B2.out; clear hk2) | (go_at_call 9; refine (awake_any _).mono ?_; rintro e w1 ⟨rfl, hk1⟩; have HK1 := Lib.hid (((Keeps.refl w).alloc (.cells #[.string en.name, .string en.cur, .slice aoC en.chart.length capC, .slice aoL en.links.length capL, .bool en.joint, .int .i64 code, .int .i64 day] 37)).trans hk1); have B1 : Hid (CaseB w1 w.heap.size en aoC capC aoL capL code day) := Lib.hid (CaseB.keeps ⟨by go_simp, by go_simp, by go_simp, by go_simp, by go_simp, by go_simp, by go_simp⟩ hk1); obtain ⟨c0, c1, c2, c3, c4, c5, c6⟩ := B1.out; clear hk1))
          go_ret
          exact ⟨rfl, HK3.out⟩
        | true =>
          obtain ⟨r, g, hr⟩ : ∃ r g, moveS en.chart en.links l day = (r, g) := ⟨_, _, rfl⟩
          obtain ⟨p, f, hp⟩ : ∃ p f, atS en.chart en.links code day = (p, f) := ⟨_, _, rfl⟩
          have htl : en.turn.links.length = en.links.length := List.length_reverse
          have HAt : Hid (∀ W, EntV W (.agg #[.string en.name, .string en.cur, .slice aoC en.chart.length capC, .slice aoL en.links.length capL, .bool en.joint]) en → Calls Try.prog 13 #[.agg #[.string en.name, .string en.cur, .slice aoC en.chart.length capC, .slice aoL en.links.length capL, .bool en.joint], .int .i64 code, .int .i64 day] W fun e w' => e = .returned (.tuple #[.int .i64 p, .int .i64 f]) ∧ Keeps W w') := Lib.hid (fun W h => by
            have := at_any en _ code day W h (by omega)
            rw [hp] at this; exact this)
          have HAy : Hid (∀ W v, EntV W v en.turn → Calls Try.prog 13 #[v, .int .i64 code, .int .i64 day] W fun e w' => e = .returned (.tuple #[.int .i64 p, .int .i64 f]) ∧ Keeps W w') := Lib.hid (fun W v h => by
            have := at_any en.turn v code day W h (by omega)
            rw [show atS en.turn.chart en.turn.links code day = atS en.chart en.links code day from at_turn hmv code day, hp] at this; exact this)
          have HMt : Hid (∀ W, EntV W (.agg #[.string en.name, .string en.cur, .slice aoC en.chart.length capC, .slice aoL en.links.length capL, .bool en.joint]) en → Bals W ao l cap b o → Calls Try.prog 18 #[.agg #[.string en.name, .string en.cur, .slice aoC en.chart.length capC, .slice aoL en.links.length capL, .bool en.joint], .slice ao l.length cap, .int .i64 day] W (OutBal W (r, g))) := Lib.hid (fun W h h' => by
            have := move_any en _ l ao cap b o day W h h' (by omega) (by omega) (fun x hx => (OK.links x hx).2.1)
            rw [hr] at this; exact this)
          have HMy : Hid (∀ W v, EntV W v en.turn → Bals W ao l cap b o → Calls Try.prog 18 #[v, .slice ao l.length cap, .int .i64 day] W (OutBal W (r, g))) := Lib.hid (fun W v h h' => by
            have := move_any en.turn v l ao cap b o day W h h' (by omega) (by omega) (fun x hx => (OK.links x (List.mem_reverse.1 hx)).2.1)
            rw [show moveS en.turn.chart en.turn.links l day = moveS en.chart en.links l day from move_turn hmv l day, hr] at this; exact this)
          have HVy : Hid (∀ W v, EntV W v en.turn → Accs W aoA c capA bA oA → Calls Try.prog 11 #[v, .slice aoA c.length capA] W fun e w' => e = .returned (.bool true) ∧ Keeps W w') := Lib.hid (fun W v h h' => by
            have := mvalid_any en.turn v c aoA capA bA oA W h h' (by omega) (show en.chart.length ≤ 200 by omega) (by omega) (fun x hx => ⟨(OK2 x hx).1, (OK2 x hx).2.2.2⟩) (fun x hx => ⟨(OK.chart x hx).1, (OK.chart x hx).2.2.2⟩) (fun x hx => OK.links x (List.mem_reverse.1 hx))
            rw [mvalidB_turn hmv] at this; exact this)
          clear HC HL OK hfw H H2 hmv OK2 hr hp htl
          go_enter Try.func8, Try.ntmps8
          go_wp2_with (first | (go_at_call 12; refine (HN.out _ (HV.out.keeps HK2.out) (HA.out.keeps HK2.out)).mono ?_; rintro e w3 ⟨rfl, hk3⟩; have HK3 := Lib.hid (HK2.out.trans hk3); have B3 := Lib.hid (B2.out.keeps hk3); clear c0 c1 c2 c3 c4 c5 c6; obtain ⟨c0, c1, c2, c3, c4, c5, c6⟩ := B3.out; have hbw := World.block_lt_of_cell? _ _ c0; clear hk3) | (go_at_call 10; refine (HF.out _ (HV.out.keeps HK1.out)).mono ?_; rintro e w2 ⟨rfl, hk2⟩; have HK2 := Lib.hid (HK1.out.trans hk2); have B2 := Lib.hid (B1.out.keeps hk2); clear c0 c1 c2 c3 c4 c5 c6; obtain ⟨c0, c1, c2, c3, c4, c5, c6⟩ := B2.out; clear hk2) | (go_at_call 9; refine (awake_any _).mono ?_; rintro e w1 ⟨rfl, hk1⟩; have HK1 := Lib.hid (((Keeps.refl w).alloc (.cells #[.string en.name, .string en.cur, .slice aoC en.chart.length capC, .slice aoL en.links.length capL, .bool en.joint, .int .i64 code, .int .i64 day] 37)).trans hk1); have B1 : Hid (CaseB w1 w.heap.size en aoC capC aoL capL code day) := Lib.hid (CaseB.keeps ⟨by go_simp, by go_simp, by go_simp, by go_simp, by go_simp, by go_simp, by go_simp⟩ hk1); obtain ⟨c0, c1, c2, c3, c4, c5, c6⟩ := B1.out; clear hk1))
          have hY := YB.made w3 en aoC capC
          have KY := Lib.hid ((Keeps.refl w3).alloc (.cells #[.string en.name, .string en.cur, .slice aoC en.chart.length capC, .slice none 0 0, .bool en.joint] 25))
          obtain ⟨W0, hW0⟩ : ∃ W0, w3.alloc (.cells #[.string en.name, .string en.cur, .slice aoC en.chart.length capC, .slice none 0 0, .bool en.joint] 25) = W0 := ⟨_, rfl⟩
          have hsz0 : W0.heap.size = w3.heap.size + 1 := by rw [← hW0]; simp
          rw [hW0] at hY KY ⊢
          have HY := Lib.hid hY
          clear hW0 hY c0 c1 c2 c3 c4 c5 c6
          go_loopw [8] (fun vi wr => ∃ q : Nat, q ≤ en.links.length ∧ vi = .int .i64 ((q : Int) - 1) ∧ Hid (TurnW w3 wr en aoC capC q)) (fun vi _ => (intOf vi + 1).toNat)
          case atStart => exact ⟨en.links.length, Nat.le_refl _, rfl, Lib.hid ⟨.slice none 0 0, KY.out, by omega, HY.out, by rw [List.drop_length, Nat.sub_self]; exact World.ownsRow_nil _ _ _ _⟩⟩
          case round =>
            obtain ⟨q, hq, rfl, HW⟩ := hrel
            obtain ⟨v, hk3, hsz, hy, hown⟩ := HW.out
            cases q with
            | zero =>
              have hown' : wr.ownsRow (w3.heap.size + 1) 39 3 v en.turn.links.length (en.turn.links.flatMap Lnk.cells) := by
                have h1 := hown
                rw [List.drop_zero, Nat.sub_zero] at h1
                have h2 : en.turn.links.length = en.links.length := List.length_reverse
                rw [h2]; exact h1
              obtain ⟨ao6, cap6, b6, hv6, hs6⟩ := Recs.own hown'
              rw [show en.turn.links.length = en.links.length from List.length_reverse] at hv6
              subst hv6
              have HEY : Hid (EntV wr (.agg #[.string en.name, .string en.cur, .slice aoC en.chart.length capC, .slice ao6 en.links.length cap6, .bool en.joint]) en.turn) := Lib.hid ⟨_, _, rfl, ⟨aoC, capC, bC, oC, rfl, HCC.out.keeps (HK3.out.trans hk3)⟩, ⟨ao6, cap6, b6, 0, by rw [show en.turn.links.length = en.links.length from List.length_reverse], hs6⟩⟩
              have HYB := Lib.hid hy
              have BR := Lib.hid (B3.out.keeps hk3)
              have HKR := Lib.hid (HK3.out.trans hk3)
              clear hown hown' hs6 hy hk3 HW
              obtain ⟨c0, c1, c2, c3, c4, c5, c6⟩ := BR.out
              obtain ⟨y0, y1, y2, y3, y4, _⟩ := HYB.out
              go_wp2_with (first | (go_at_call 20; (with_reducible refine (sameBx _ aoM aoN capM bM oM capN bN oN _ HS6c.out HS7c.out _ _ rfl rfl).mono ?_); rintro e w10 ⟨rfl, hk10⟩) | (go_at_call 11; (with_reducible refine (HVy.out _ _ HE7.out (HA.out.keeps HK7.out)).mono ?_); rintro e w9 ⟨rfl, hk9⟩; have HK9 := Lib.hid (HK7.out.trans hk9); have HS6c := Lib.hid (HS6b.out.keeps hk9); have HS7c := Lib.hid (HS7.out.keeps hk9); clear hk9) | (go_at_call 18; (with_reducible refine (HMy.out _ _ HE6.out (HB.out.keeps HK6.out)).mono ?_); rintro e w7 ⟨aoN, capN, bN, oN, rfl, hs7, hk7⟩; have HK7 := Lib.hid (HK6.out.trans hk7); have B7 := Lib.hid (B6.out.keeps hk7); have Y7 := Lib.hid (Y6.out.keeps hk7); clear c0 c1 c2 c3 c4 c5 c6 y0 y1 y2 y3 y4; obtain ⟨c0, c1, c2, c3, c4, c5, c6⟩ := B7.out; obtain ⟨y0, y1, y2, y3, y4, _⟩ := Y7.out; have HE7 := Lib.hid (HE6.out.keeps hk7); have HS7 := Lib.hid hs7; have HS6b := Lib.hid (HS6.out.keeps hk7); clear hk7 hs7) | (go_at_call 18; (with_reducible refine (HMt.out _ (HV.out.keeps HK5.out) (HB.out.keeps HK5.out)).mono ?_); rintro e w6 ⟨aoM, capM, bM, oM, rfl, hs6, hk6⟩; have HK6 := Lib.hid (HK5.out.trans hk6); have B6 := Lib.hid (B5.out.keeps hk6); have Y6 := Lib.hid (Y5.out.keeps hk6); clear c0 c1 c2 c3 c4 c5 c6 y0 y1 y2 y3 y4; obtain ⟨c0, c1, c2, c3, c4, c5, c6⟩ := B6.out; obtain ⟨y0, y1, y2, y3, y4, _⟩ := Y6.out; have HE6 := Lib.hid (HE5.out.keeps hk6); have HS6 := Lib.hid hs6; clear hk6 hs6) | (go_at_call 13; (with_reducible refine (HAy.out _ _ HE4.out).mono ?_); rintro e w5 ⟨rfl, hk5⟩; have HK5 := Lib.hid (HK4.out.trans hk5); have B5 := Lib.hid (B4.out.keeps hk5); have Y5 := Lib.hid (Y4.out.keeps hk5); clear c0 c1 c2 c3 c4 c5 c6 y0 y1 y2 y3 y4; obtain ⟨c0, c1, c2, c3, c4, c5, c6⟩ := B5.out; obtain ⟨y0, y1, y2, y3, y4, _⟩ := Y5.out; have HE5 := Lib.hid (HE4.out.keeps hk5); clear hk5) | (go_at_call 13; (with_reducible refine (HAt.out _ (HV.out.keeps HKR.out)).mono ?_); rintro e w4 ⟨rfl, hk4⟩; have BR4 := BR; have YR4 := HYB; have HKR4 := HKR; have HK0 := HKR; have B0 := BR; have Y0 := HYB; have HK4 := Lib.hid (HK0.out.trans hk4); have B4 := Lib.hid (B0.out.keeps hk4); have Y4 := Lib.hid (Y0.out.keeps hk4); clear c0 c1 c2 c3 c4 c5 c6 y0 y1 y2 y3 y4; obtain ⟨c0, c1, c2, c3, c4, c5, c6⟩ := B4.out; obtain ⟨y0, y1, y2, y3, y4, _⟩ := Y4.out; have HE4 := Lib.hid (HEY.out.keeps hk4); clear hk4))
              go_ret
              exact ⟨rfl, HK9.out.trans hk10⟩
            | succ q =>
              rw [show (((q + 1 : Nat) : Int) - 1) = (q : Int) from by omega]
              have HLr := HLL.out.keeps (HK3.out.trans hk3)
              have hix := Sl.at HLr Try.underlying23 Try.sizeOf39 q (by omega)
              have l0 := HLr.cell Lnk.len q (by omega) 0 _ rfl
              have l1 := HLr.cell Lnk.len q (by omega) 1 _ rfl
              have l2 := HLr.cell Lnk.len q (by omega) 2 _ rfl
              simp only [Nat.add_zero] at l0
              have d3 := (B3.out.keeps hk3).c3
              have hbd := World.block_lt_of_cell? _ _ d3
              have hbl := World.block_lt_of_cell? _ _ l0
              obtain ⟨y0, y1, y2, y3, y4, yf⟩ := hy
              have hby := World.block_lt_of_cell? _ _ y0
              have HY1 := Lib.hid (YB.mk y0 y1 y2 y3 y4 yf)
              have HOWN := Lib.hid hown
              have HK := Lib.hid hk3
              clear HLr hown hk3
              go_wp2_with fail
              go_region_law
                ((refine step_all_raw elemLnk (by rfl) (.tmp 53) (.tmp 60) (by rfl) v (en.links.length - (q + 1)) _ (by rfl) (w3.heap.size + 1) (by first | exact HOWN.out.alloc _ | exact HOWN.out) (by first | omega | (simp; omega)) _ 1 1 _ 0 [.int .i64 (en.links[q]'(by omega)).frm, .int .i64 (en.links[q]'(by omega)).to, .int .i64 (en.links[q]'(by omega)).since] (by rfl) (by exact Sl.block rfl (fun j u hj => by rcases j with _ | _ | _ | j <;> simp at hj <;> subst hj <;> go_simp)) (by intro u hu; simp at hu; rcases hu with rfl | rfl | rfl <;> rfl) (by omega) (by omega) ?_; intro v5 w5 hown5 hgrow5 hat5; obtain ⟨ao5, cap5, b5, rfl, hs5⟩ := Sl.own hown5; clear hs5; have HROW := Lib.hid hown5; have hb5 : Below (w3.heap.size + 1) wr w5 := (Below.grown (((Below.refl _ wr).alloc hsz _).drew) hgrow5 (by first | omega | (simp; omega)) (fun j hj => (HOWN.out.lt j hj).1)); obtain ⟨z0, z1, z2, z3, z4, zf⟩ := HY1.out.below hb5; have hk5 : Keeps w3 w5 := HK.out.trans' hb5 (by omega); have m3 := (B3.out.keeps hk5).c3; have HLs := HLL.out.keeps (HK3.out.trans hk5); have n0 := HLs.cell Lnk.len q (by omega) 0 _ rfl; have n1 := HLs.cell Lnk.len q (by omega) 1 _ rfl; have n2 := HLs.cell Lnk.len q (by omega) 2 _ rfl; simp only [Nat.add_zero] at n0; have hbz := World.block_lt_of_cell? _ _ z0; have hbn := World.block_lt_of_cell? _ _ n0; have hbm := World.block_lt_of_cell? _ _ m3; clear HLs; clear hgrow5 hat5 hown5))
              all_goals
                have HT : Hid (TurnW w3 (w5.setCell ⟨w3.heap.size, 3, none⟩ (.slice ao5 (en.links.length - (q + 1) + 1) cap5)) en aoC capC q) := Lib.hid ⟨_, hk5.setCell (Nat.le_refl _) _, by have := hb5.size; simp; omega, ⟨by go_simp, by go_simp, by go_simp, by go_simp, by go_simp, by go_simp⟩, turn_step (by omega) (ownsRow_setCell_below HROW.out (a := ⟨w3.heap.size, 3, none⟩) (Nat.lt_succ_self _) _)⟩
                clear z0 z1 z2 z3 z4 zf hk5 m3 n0 n1 n2 hbz hbn hbm y0 y1 y2 y3 y4 yf hby HY1 HOWN HROW hb5 l0 l1 l2 d3
                go_wp2_with fail
                go_roundw
                case rel => exact ⟨q, by omega, rfl, HT⟩
                case measure => simp [intOf]
      · have hll2 : decide ((60 : Int) < (l.length : Int)) = true := decide_eq_true (by omega)
        clear HC HL OK hfw H H2 OK2
        go_enter Try.func8, Try.ntmps8
        go_wp2_with (first | (go_at_call 10; refine (HF.out _ (HV.out.keeps HK1.out)).mono ?_; rintro e w2 ⟨rfl, hk2⟩; have HK2 := Lib.hid (HK1.out.trans hk2); have B2 := Lib.hid (B1.out.keeps hk2); clear c0 c1 c2 c3 c4 c5 c6; obtain ⟨c0, c1, c2, c3, c4, c5, c6⟩ := B2.out; clear hk2) | (go_at_call 9; refine (awake_any _).mono ?_; rintro e w1 ⟨rfl, hk1⟩; have HK1 := Lib.hid (((Keeps.refl w).alloc (.cells #[.string en.name, .string en.cur, .slice aoC en.chart.length capC, .slice aoL en.links.length capL, .bool en.joint, .int .i64 code, .int .i64 day] 37)).trans hk1); have B1 : Hid (CaseB w1 w.heap.size en aoC capC aoL capL code day) := Lib.hid (CaseB.keeps ⟨by go_simp, by go_simp, by go_simp, by go_simp, by go_simp, by go_simp, by go_simp⟩ hk1); obtain ⟨c0, c1, c2, c3, c4, c5, c6⟩ := B1.out; clear hk1))
        go_ret
        exact ⟨rfl, HK2.out⟩
    · have hcl2 : decide ((60 : Int) < (c.length : Int)) = true := decide_eq_true (by omega)
      clear HC HL OK hfw H H2 OK2
      go_enter Try.func8, Try.ntmps8
      go_wp2_with (first | (go_at_call 10; refine (HF.out _ (HV.out.keeps HK1.out)).mono ?_; rintro e w2 ⟨rfl, hk2⟩; have HK2 := Lib.hid (HK1.out.trans hk2); have B2 := Lib.hid (B1.out.keeps hk2); clear c0 c1 c2 c3 c4 c5 c6; obtain ⟨c0, c1, c2, c3, c4, c5, c6⟩ := B2.out; clear hk2) | (go_at_call 9; refine (awake_any _).mono ?_; rintro e w1 ⟨rfl, hk1⟩; have HK1 := Lib.hid (((Keeps.refl w).alloc (.cells #[.string en.name, .string en.cur, .slice aoC en.chart.length capC, .slice aoL en.links.length capL, .bool en.joint, .int .i64 code, .int .i64 day] 37)).trans hk1); have B1 : Hid (CaseB w1 w.heap.size en aoC capC aoL capL code day) := Lib.hid (CaseB.keeps ⟨by go_simp, by go_simp, by go_simp, by go_simp, by go_simp, by go_simp, by go_simp⟩ hk1); obtain ⟨c0, c1, c2, c3, c4, c5, c6⟩ := B1.out; clear hk1))
      go_ret
      exact ⟨rfl, HK2.out⟩
end Go.Proofs.Ytppjjmjdiccloab
