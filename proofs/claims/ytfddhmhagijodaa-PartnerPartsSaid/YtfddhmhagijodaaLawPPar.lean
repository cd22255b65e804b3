/- The law on the parts of lines, plain: the lines of all pairs are the lines with a partner. No program is walked; The law on the parts of lines: the walk. -/
import Derived.Test.YtfddhmhagijodaaPrEq
import Derived.Test.YtfddhmhagijodaaPOfW
import Derived.Test.YtfddhmhagijodaaLawPLin
import Derived.Test.YtfddhmhagijodaaLawPPai
namespace Go.Proofs.Ytfddhmhagijodaa
open Go.RowKit
set_option linter.unusedSimpArgs false
set_option linter.unusedVariables false

/-- The lines with a partner, up to a date. -/
def wantL (date : Int) (l : List Jrn) : List Ln := l.flatMap (fun y => y.lines.filter (fun l => decide (l.ptn ≠ -1) && decide (y.date ≤ date)))
theorem lnsAt_want (x : Jrn) (i : Nat) : ∀ (t : List Ln) (k : Nat), ((lnsAt x i k t).filter (fun p => decide (p.ptn ≠ -1))).length = (t.filter (fun l => decide (l.ptn ≠ -1))).length
  | [], _ => rfl
  | a :: t, k => by
    rw [lnsAt, List.filter_cons, List.filter_cons]
    have := lnsAt_want x i t (k + 1)
    by_cases h : a.ptn ≠ -1
    · rw [if_pos (decide_eq_true h), if_pos (decide_eq_true h), List.length_cons, List.length_cons, this]
    · rw [if_neg (by rw [decide_eq_false h]; simp), if_neg (by rw [decide_eq_false h]; simp), this]
theorem plsAt_want (date : Int) : ∀ (t : List Jrn) (i : Nat), ((plsAt date i t).filter (fun p => decide (p.ptn ≠ -1))).length = (wantL date t).length
  | [], _ => rfl
  | a :: t, i => by
    rw [plsAt, List.filter_append, List.length_append, plsAt_want date t (i + 1)]
    unfold wantL
    rw [List.flatMap_cons, List.length_append]
    congr 1
    unfold jPls
    by_cases h : a.date ≤ date
    · rw [if_neg (by omega), lnsAt_want]
      congr 1
      exact List.filter_congr (fun x _ => by rw [decide_eq_true h, Bool.and_true])
    · have h2 : a.lines.filter (fun l => decide (l.ptn ≠ -1) && decide (a.date ≤ date)) = [] := List.filter_eq_nil_iff.2 (fun x _ => by rw [decide_eq_false h, Bool.and_false]; simp)
      rw [if_pos (by omega), h2]
      rfl
theorem places_want (date : Int) (l : List Jrn) : (prsOf (places date l)).length = (wantL date l).length := by
  unfold prsOf
  rw [List.length_map, places, ((sortPl_perm (plsAt date 0 l)).filter _).length_eq, plsAt_want]
theorem linesP_count (date : Int) (x : Pr) (l : List Jrn) : (linesP date x.a x.b l).length = ((places date l).filter (fun p => decide (p.pr = x))).length := by
  unfold linesP btw
  rw [List.length_map]
  congr 1
  refine List.filter_congr fun p _ => ?_
  obtain ⟨a, b⟩ := x
  unfold outsB Plc.pr
  simp only [Pr.mk.injEq]
  by_cases h1 : p.ent = a <;> by_cases h2 : p.ptn = b <;> simp [h1, h2]
theorem sum_one {l : List Pr} (hn : l.Nodup) {y : Pr} (hy : y ∈ l) : (l.map (fun x => if y = x then 1 else 0)).sum = 1 := by
  induction l with
  | nil => exact absurd hy List.not_mem_nil
  | cons a t ih =>
    have h1 := List.nodup_cons.1 hn
    rw [List.map_cons, List.sum_cons]
    by_cases h : y = a
    · rw [if_pos h]
      have : ∀ s : List Pr, y ∉ s → (s.map (fun x => if y = x then 1 else 0)).sum = 0 := by
        intro s
        induction s with
        | nil => intro _; rfl
        | cons b s ihs =>
          intro hb
          rw [List.map_cons, List.sum_cons, if_neg (fun e => hb (by rw [e]; exact List.mem_cons_self ..)), ihs (fun h => hb (List.mem_cons_of_mem _ h))]
      rw [this t (h ▸ h1.1)]
    · rw [if_neg h, ih h1.2 (by rcases List.mem_cons.1 hy with e | e; exact absurd e h; exact e)]
theorem sum_counts {l : List Pr} (hn : l.Nodup) : ∀ (M : List Plc), (∀ p ∈ M, p.ptn ≠ -1 → p.pr ∈ l) → (∀ x ∈ l, x.b ≠ -1) → (l.map (fun x => (M.filter (fun p => decide (p.pr = x))).length)).sum = (prsOf M).length
  | [], _, _ => by
    have : ∀ s : List Pr, (s.map (fun x => (([] : List Plc).filter (fun p => decide (p.pr = x))).length)).sum = 0 := by
      intro s
      induction s with
      | nil => rfl
      | cons a s ih => rw [List.map_cons, List.sum_cons, ih]; rfl
    rw [this]; rfl
  | q :: M, hM, hl => by
    have ih := sum_counts hn M (fun p hp => hM p (List.mem_cons_of_mem _ hp)) hl
    have hs : ∀ s : List Pr, (s.map (fun x => ((q :: M).filter (fun p => decide (p.pr = x))).length)).sum = (s.map (fun x => if q.pr = x then 1 else 0)).sum + (s.map (fun x => (M.filter (fun p => decide (p.pr = x))).length)).sum := by
      intro s
      induction s with
      | nil => rfl
      | cons a s ihs =>
        rw [List.map_cons, List.sum_cons, ihs, List.map_cons, List.sum_cons, List.map_cons, List.sum_cons, List.filter_cons]
        by_cases h : q.pr = a
        · rw [if_pos (decide_eq_true h), if_pos h, List.length_cons]; omega
        · rw [if_neg (by rw [decide_eq_false h]; simp), if_neg h]; omega
    rw [hs, ih]
    unfold prsOf
    rw [List.filter_cons]
    by_cases h : q.ptn ≠ -1
    · rw [if_pos (decide_eq_true h), sum_one hn (hM q (List.mem_cons_self ..) h), List.map_cons, List.length_cons]; omega
    · rw [if_neg (by rw [decide_eq_false h]; simp)]
      have : ∀ s : List Pr, (∀ x ∈ s, x.b ≠ -1) → (s.map (fun x => if q.pr = x then 1 else 0)).sum = 0 := by
        intro s
        induction s with
        | nil => intro _; rfl
        | cons a s ihs =>
          intro hs
          rw [List.map_cons, List.sum_cons, if_neg (fun e => hs a (List.mem_cons_self ..) (by rw [← e]; exact Classical.not_not.1 h)), ihs (fun x hx => hs x (List.mem_cons_of_mem _ hx))]
      rw [this l hl, Nat.zero_add]
/-- The lines of the first pairs. -/
def gotN (date : Int) (L : List Jrn) (l : List Pr) : Nat := (l.map (fun x => (linesP date x.a x.b L).length)).sum
theorem gotN_snoc (date : Int) (L : List Jrn) (l : List Pr) (x : Pr) : gotN date L (l ++ [x]) = gotN date L l + (linesP date x.a x.b L).length := by
  unfold gotN; rw [List.map_append, List.sum_append]; simp
theorem gotN_all {date : Int} {L : List Jrn} {l : List Pr} (h : PairsAre (places date L) l) : gotN date L l = (wantL date L).length := by
  have hb : ∀ x ∈ l, x.b ≠ -1 := fun x hx => by
    obtain ⟨p, _, h1, rfl⟩ := mem_prsOf.1 ((h.2 x).1 hx)
    exact h1
  have := sum_counts h.1.nodup (places date L) (fun p hp h1 => (h.2 _).2 (mem_prsOf.2 ⟨p, hp, h1, rfl⟩)) hb
  rw [places_want] at this
  rw [← this]
  unfold gotN
  congr 1
  exact List.map_congr_left fun x _ => linesP_count date x L
theorem lines_pos {date : Int} {L : List Jrn} {l : List Pr} (h : PairsAre (places date L) l) {x : Pr} (hx : x ∈ l) : 0 < (linesP date x.a x.b L).length := by
  obtain ⟨p, hp, _, he⟩ := mem_prsOf.1 ((h.2 x).1 hx)
  rw [linesP_count]
  exact List.length_pos_of_mem (List.mem_filter.2 ⟨hp, decide_eq_true he⟩)
theorem gotN_le {date : Int} {L : List Jrn} (l : List Pr) (k : Nat) : gotN date L (l.take k) ≤ gotN date L l := by
  have h : gotN date L l = gotN date L (l.take k) + gotN date L (l.drop k) := by
    unfold gotN; rw [← List.sum_append, ← List.map_append, List.take_append_drop]
  omega
theorem wantL_len (date : Int) (m : Nat) : ∀ (l : List Jrn), (∀ x ∈ l, x.lines.length ≤ m) → (wantL date l).length ≤ l.length * m
  | [], _ => by simp [wantL]
  | a :: t, h => by
    have := wantL_len date m t (fun x hx => h x (List.mem_cons_of_mem _ hx))
    unfold wantL at this ⊢
    rw [List.flatMap_cons, List.length_append, List.length_cons, Nat.add_mul, Nat.one_mul]
    have h1 := List.length_filter_le (fun l : Ln => decide (l.ptn ≠ -1) && decide (a.date ≤ date)) a.lines
    have h2 := h a (List.mem_cons_self ..)
    omega
theorem wantL_take (date : Int) (l : List Jrn) (k : Nat) (hk : k < l.length) : wantL date (l.take (k + 1)) = wantL date (l.take k) ++ l[k].lines.filter (fun n => decide (n.ptn ≠ -1) && decide (l[k].date ≤ date)) := by
  rw [take_snoc _ k hk]; unfold wantL; rw [List.flatMap_append]; simp
end Go.Proofs.Ytfddhmhagijodaa

namespace Go.Proofs.Ytfddhmhagijodaa
open Go.RowKit
set_option linter.unusedSimpArgs false
set_option linter.unusedVariables false

set_option maxRecDepth 100000 in
set_option maxHeartbeats 16000000 in
theorem lawPar_any (bv : List Value) (es : List JV) (ms : List MV) (date : Int) (w : World) (H : Bks w bv es ms) (hsm : ∀ m ∈ ms, m.x.left.length + m.x.right.length ≤ 9223372036854775807) :
    Calls Try.prog 9 #[.agg bv.toArray, .int .i64 date] w fun e w' => e = .returned (.bool true) ∧ Keeps w w' := by
  have HB := Lib.hid H
  have hbl := H.len
  have hrg := box_range w bv 36
  have hk0 : Keeps w (w.alloc (.cells bv.toArray 36)) := (Keeps.refl w).alloc _
  have HK0 := Lib.hid hk0
  clear hk0
  cases hf : fewB es ms with
  | false =>
    have HF : Hid (∀ W, Keeps w W → Calls Try.prog 11 #[.agg bv.toArray] W fun e w' => e = .returned (.bool false) ∧ Keeps W w') := Lib.hid (fun W hW => by have := few_any bv es ms W (HB.out.keeps hW); rw [hf] at this; exact this)
    clear hf H
    go_enter Try.func9, Try.ntmps9
    go_wp2_with (first | (go_at_call 10; first | (guard_hyp hk1 : _; refine (pawake_any _).mono ?_; rintro e w3 ⟨rfl, hk3⟩) | (refine (pawake_any _).mono ?_; rintro e w1 ⟨rfl, hk1⟩; have hrg1 := range_keeps hrg hk1)) | (refine wpList_booksG (.tmp 2) rfl rfl w.heap.size bv hbl rfl hrg1 ?_; clear hrg1) | (go_at_call 11; refine (HF.out _ (HK0.out.trans hk1)).mono ?_; rintro e w2 ⟨rfl, hk2⟩))
    go_ret
    exact ⟨rfl, (HK0.out.trans hk1).trans (hk2.trans hk3)⟩
  | true =>
    obtain ⟨hl8, hn40, hn20, hl20⟩ := fewB_spec hf
    have hl : ∀ m ∈ ms, m.x.left.length + m.x.right.length ≤ 20 := fun m hm => by
      have h1 := hl20 m hm
      have h2 := hsm m hm
      unfold wrap64 at h1
      omega
    have HF : Hid (∀ W, Keeps w W → Calls Try.prog 11 #[.agg bv.toArray] W fun e w' => e = .returned (.bool true) ∧ Keeps W w') := Lib.hid (fun W hW => by have := few_any bv es ms W (HB.out.keeps hW); rw [hf] at this; exact this)
    have HP : Hid (∀ W, Keeps w W → Calls Try.prog 24 #[.agg bv.toArray, .int .i64 date] W fun e w' => ∃ v l, e = .returned v ∧ PairsAre (places date (es.map JV.x)) l ∧ PrV l w' v ∧ Keeps W w') := Lib.hid (fun W hW => by
      refine (pairs_any bv es ms date W (HB.out.keeps hW) (by omega) hl8).mono ?_
      rintro e w' ⟨v, l2, rfl, ha, ho, hk⟩
      exact ⟨v, l2, rfl, ha, PrV.own ho, hk⟩)
    have HLN : Hid (∀ (x : Pr) W, Keeps w W → Calls Try.prog 15 #[.agg bv.toArray, .int .i64 x.a, .int .i64 x.b, .int .i64 date] W fun e w' => ∃ v, e = .returned v ∧ RfV (linesP date x.a x.b (es.map JV.x)) w' v ∧ Keeps W w') := Lib.hid (fun x W hW => by
      obtain ⟨ao, cap, b, o, he, hj⟩ := HB.out.ents
      refine (lines_any bv hbl HB.out.one es ao cap b o he x.a x.b date W (hj.keeps hW) (by omega) hl8).mono ?_
      rintro e w' ⟨v, rfl, ho, hk⟩
      exact ⟨v, rfl, RfV.own ho, hk⟩)
    have HON : Hid (∀ (x : Pr) W, Keeps w W → Calls Try.prog 19 #[.agg bv.toArray, .int .i64 x.a, .int .i64 x.b, .int .i64 date] W fun e w' => ∃ v, e = .returned v ∧ RfV (openP date x.a x.b (es.map JV.x) ms) w' v ∧ Keeps W w') := Lib.hid (fun x W hW => by
      refine (open_any bv es ms x.a x.b date W (HB.out.keeps hW) (by omega) hl8 hn20 hl).mono ?_
      rintro e w' ⟨v, rfl, ho, hk⟩
      exact ⟨v, rfl, RfV.own ho, hk⟩)
    have HMR : Hid (∀ (r : Rf) W, Keeps w W → Calls Try.prog 26 #[.agg bv.toArray, .agg #[.int .i64 r.e, .int .i64 r.l]] W fun e w' => e = .returned (.bool (mref ms r)) ∧ Keeps W w') := Lib.hid (fun r W hW => rmatched_any bv es ms r W (HB.out.keeps hW))
    have HW8 : Hid (∀ x ∈ es.map JV.x, x.lines.length ≤ 8) := Lib.hid (fun x hx => by obtain ⟨e, he, rfl⟩ := List.mem_map.1 hx; exact hl8 e he)
    have hwl := wantL_len date 8 (es.map JV.x) HW8.out
    rw [List.length_map] at hwl
    obtain ⟨L, hL⟩ : ∃ L, es.map JV.x = L := ⟨_, rfl⟩
    have HLE : Hid (es.length = L.length) := Lib.hid (by rw [← hL, List.length_map])
    have HLG : Hid (∀ k (h : k < es.length), ∃ h2 : k < L.length, L[k] = es[k].x) := Lib.hid (fun k h => by subst hL; exact ⟨by simpa using h, by simp⟩)
    rw [hL] at HP HLN HON HW8 hwl
    clear hL
    obtain ⟨aoE, capE, bE, oE, heE, hjE⟩ := HB.out.ents
    have HJ := Lib.hid hjE
    have HL8 := Lib.hid hl8
    have hleE := Sl.le hjE.row
    have hcapE := Sl.cap hjE.row
    clear hf H hl8 hn20 hl20 hl hsm hjE
    go_enter Try.func9, Try.ntmps9
    go_wp2_with (first | (go_at_call 10; refine (pawake_any _).mono ?_; rintro e w1 ⟨rfl, hk1⟩; have hrg1 := range_keeps hrg hk1; have K1 := Lib.hid (HK0.out.trans hk1)) | (refine wpList_booksG (.tmp 2) rfl rfl w.heap.size bv hbl rfl hrg1 ?_) | (go_at_call 11; refine (HF.out _ K1.out).mono ?_; rintro e w2 ⟨rfl, hk2⟩; have hrgc := range_keeps hrg1 hk2; have c21 := hrgc 21 _ heE; rw [Nat.zero_add] at c21; have K2 := Lib.hid (K1.out.trans hk2)))
    have HRG : Hid (∀ W, Keeps w2 W → W.rangeAt w.heap.size 0 bv) := Lib.hid (fun W hW => range_keeps hrgc hW)
    clear hrg1 hrg hrgc
    go_loopw [5, 28] (fun vw vi wr => ∃ k n : Nat, k ≤ es.length ∧ n ≤ k * 8 ∧ vi = .int .i64 k ∧ vw = .int .i64 n ∧ Hid (n = (wantL date (L.take k)).length) ∧ Hid (Keeps w2 wr)) (fun _ vi _ => es.length - (intOf vi).toNat)
    case atStart => exact ⟨0, 0, Nat.zero_le _, Nat.le_refl _, rfl, rfl, Lib.hid (by simp [wantL]), Lib.hid (Keeps.refl w2)⟩
    case round =>
      obtain ⟨k, n, hk, hnk, rfl, rfl, HN, HW⟩ := hrel
      by_cases hlt : k < es.length
      · obtain ⟨wo, rfl⟩ : ∃ wo : World, wo = wr := ⟨_, rfl⟩
        have hr := HJ.out.row.keeps (K2.out.trans HW.out)
        have hix := Sl.at hr Try.underlying30 Try.sizeOf50 k hlt
        obtain ⟨y, hy⟩ : ∃ y, es[k] = y := ⟨_, rfl⟩
        have e0 := hr.cell JV.len k hlt 0 (.int .i64 y.x.id) (by rw [hy]; rfl)
        have e1 := hr.cell JV.len k hlt 1 (.int .i64 y.x.ent) (by rw [hy]; rfl)
        have e2 := hr.cell JV.len k hlt 2 (.int .i64 y.x.date) (by rw [hy]; rfl)
        have e3 := hr.cell JV.len k hlt 3 (.int .i64 y.x.kind) (by rw [hy]; rfl)
        have e4 := hr.cell JV.len k hlt 4 (.int .i64 y.x.of_) (by rw [hy]; rfl)
        have e5 := hr.cell JV.len k hlt 5 (.string y.x.text) (by rw [hy]; rfl)
        have e6 := hr.cell JV.len k hlt 6 (.slice y.a y.x.lines.length y.c) (by rw [hy]; rfl)
        simp only [Nat.add_zero] at e0
        have hym : y ∈ es := by rw [← hy]; exact List.getElem_mem ..
        have HLI := Lib.hid (HJ.out.lines y hym)
        have hy8 := HL8.out y hym
        have hyle := Sl.le HLI.out
        have hycap := Sl.cap HLI.out
        have HWT : Hid (wantL date (L.take (k + 1)) = wantL date (L.take k) ++ y.x.lines.filter (fun n => decide (n.ptn ≠ -1) && decide (y.x.date ≤ date))) := Lib.hid (by
          obtain ⟨h2, h3⟩ := HLG.out k hlt
          rw [wantL_take date L k h2, h3, hy])
        have HKP : Hid (Keeps w2 (wo.alloc (.cells #[.int .i64 y.x.id, .int .i64 y.x.ent, .int .i64 y.x.date, .int .i64 y.x.kind, .int .i64 y.x.of_, .string y.x.text, .slice y.a y.x.lines.length y.c] 50))) := Lib.hid (HW.out.alloc _)
        have HCP : Hid ((wo.alloc (.cells #[.int .i64 y.x.id, .int .i64 y.x.ent, .int .i64 y.x.date, .int .i64 y.x.kind, .int .i64 y.x.of_, .string y.x.text, .slice y.a y.x.lines.length y.c] 50)).cell? ⟨wo.heap.size, 2, none⟩ = some (.int .i64 y.x.date)) := Lib.hid (by go_simp)
        clear hr hy hym
        go_wp2_with fail
        go_loopw [5, 35] (fun vw vi w3 => ∃ j m : Nat, j ≤ y.x.lines.length ∧ m ≤ n + j ∧ vi = .int .i64 j ∧ vw = .int .i64 m ∧ Hid (m = n + ((y.x.lines.take j).filter (fun n => decide (n.ptn ≠ -1) && decide (y.x.date ≤ date))).length) ∧ Hid (Keeps w2 w3 ∧ w3.cell? ⟨wo.heap.size, 2, none⟩ = some (.int .i64 y.x.date))) (fun _ vi _ => y.x.lines.length - (intOf vi).toNat)
        case atStart => exact ⟨0, n, Nat.zero_le _, Nat.le_refl _, rfl, rfl, Lib.hid (by simp), Lib.hid ⟨HKP.out, HCP.out⟩⟩
        case round =>
          obtain ⟨j, m, hj, hmj, rfl, rfl, HM, HX⟩ := hrel
          by_cases hjl : j < y.x.lines.length
          · have hr2 := HLI.out.keeps (K2.out.trans HX.out.1)
            have hix2 := Sl.at hr2 Try.underlying48 Try.sizeOf56 j hjl
            obtain ⟨q, hq⟩ : ∃ q, y.x.lines[j] = q := ⟨_, rfl⟩
            have d0 := hr2.cell Ln.len j hjl 0 (.int .i64 q.acc) (by rw [hq]; rfl)
            have d1 := hr2.cell Ln.len j hjl 1 (.int .i64 q.amt) (by rw [hq]; rfl)
            have d2 := hr2.cell Ln.len j hjl 2 (.int .i64 q.ptn) (by rw [hq]; rfl)
            rw [Nat.add_zero] at d0
            have cd := HX.out.2
            have hbd := World.block_lt_of_cell? _ _ cd
            simp only at hbd
            have HT : Hid (((y.x.lines.take (j + 1)).filter (fun n => decide (n.ptn ≠ -1) && decide (y.x.date ≤ date))).length = ((y.x.lines.take j).filter (fun n => decide (n.ptn ≠ -1) && decide (y.x.date ≤ date))).length + if (decide (q.ptn ≠ -1) && decide (y.x.date ≤ date)) = true then 1 else 0) := Lib.hid (by
              rw [take_snoc _ j hjl, hq, List.filter_append, List.length_append, List.filter_cons]
              by_cases h : (decide (q.ptn ≠ -1) && decide (y.x.date ≤ date)) = true
              · rw [if_pos h, if_pos h]; rfl
              · rw [if_neg h, if_neg h]; rfl)
            have HK2 : Hid (Keeps w2 (wr.alloc (.cells #[.int .i64 q.acc, .int .i64 q.amt, .int .i64 q.ptn] 56)) ∧ (wr.alloc (.cells #[.int .i64 q.acc, .int .i64 q.amt, .int .i64 q.ptn] 56)).cell? ⟨wo.heap.size, 2, none⟩ = some (.int .i64 y.x.date)) := Lib.hid ⟨HX.out.1.alloc _, Keeps.cell ((Keeps.refl _).alloc _) cd⟩
            clear hr2 hq
            by_cases h1 : q.ptn = -1
            · have g1 : (q.ptn != -1) = false := by simp [h1]
              rw [if_neg (by rw [decide_eq_false (fun h => h h1)]; simp), Nat.add_zero] at HT
              clear h1
              go_wp2_with fail
              go_roundw
              case rel => exact ⟨j + 1, m, by omega, by omega, by go_num, rfl, Lib.hid (by rw [HT.out]; exact HM.out), HK2⟩
              case measure => simp [intOf]; omega
            · have g1 : (q.ptn != -1) = true := by simp [h1]
              by_cases h2 : y.x.date ≤ date
              · have g2 : decide (y.x.date ≤ date) = true := decide_eq_true h2
                rw [if_pos (by rw [decide_eq_true h1, g2]; rfl)] at HT
                clear h1 h2
                go_wp2_with fail
                go_roundw
                case rel => exact ⟨j + 1, m + 1, by omega, by omega, by go_num, by go_num, Lib.hid (by rw [HT.out, HM.out]; omega), HK2⟩
                case measure => simp [intOf]; omega
              · have g2 : decide (y.x.date ≤ date) = false := decide_eq_false h2
                rw [if_neg (by rw [g2]; simp), Nat.add_zero] at HT
                clear h1 h2
                go_wp2_with fail
                go_roundw
                case rel => exact ⟨j + 1, m, by omega, by omega, by go_num, rfl, Lib.hid (by rw [HT.out]; exact HM.out), HK2⟩
                case measure => simp [intOf]; omega
          · obtain rfl : j = y.x.lines.length := by omega
            have HM2 : Hid (m = (wantL date (L.take (k + 1))).length) := Lib.hid (by rw [HWT.out, List.length_append, HM.out, List.take_length, HN.out])
            go_wp2_with fail
            go_roundw
            case rel => exact ⟨k + 1, m, by omega, by omega, by go_num, rfl, HM2, Lib.hid HX.out.1⟩
            case measure => simp [intOf]; omega
      · obtain rfl : k = es.length := by omega
        have HNT : Hid (n = (wantL date L).length) := Lib.hid (by have := HN.out; rwa [HLE.out, List.take_length] at this)
        obtain ⟨wv, rfl⟩ : ∃ wv : World, wv = wr := ⟨_, rfl⟩
        have hrgv := HRG.out _ HW.out
        clear hlt hk HN
        go_wp2_with (first | (refine wpList_books rfl (.tmp 2) rfl w.heap.size bv hbl rfl hrgv ?_; clear hrgv) | (go_at_call 24; refine (HP.out _ (K2.out.trans HW.out)).mono ?_; rintro e w3 ⟨v3, l, rfl, hpa, ⟨ao3, cap3, b3, rfl, hs3⟩, hk3⟩; have HPA := Lib.hid hpa; have HS3 := Lib.hid hs3; have HK3 := Lib.hid (HW.out.trans hk3); have hle3 := hs3.le; have hcap3 := hs3.cap; clear hpa hs3 hk3))
        have HGA := Lib.hid (gotN_all HPA.out)
        go_loopw [6, 56] (fun vg vi wr => ∃ k : Nat, k ≤ l.length ∧ vi = .int .i64 k ∧ vg = .int .i64 (gotN date L (l.take k) : Nat) ∧ Hid (Keeps w3 wr)) (fun _ vi _ => l.length - (intOf vi).toNat)
        case atStart => exact ⟨0, Nat.zero_le _, rfl, rfl, Lib.hid (Keeps.refl w3)⟩
        case round =>
          obtain ⟨k, hk, rfl, rfl, HV⟩ := hrel
          by_cases hlt : k < l.length
          · obtain ⟨wo, rfl⟩ : ∃ wo : World, wo = wr := ⟨_, rfl⟩
            have hr := HS3.out.keeps HV.out
            have hix := Sl.at (show Recs wo 2 Pr.cells ao3 l cap3 b3 0 from hr) Try.underlying64 Try.sizeOf66 k hlt
            obtain ⟨x, hx⟩ : ∃ x, l[k] = x := ⟨_, rfl⟩
            have c0 := Recs.cell (show Recs wo 2 Pr.cells ao3 l cap3 b3 0 from hr) Pr.len k hlt 0 (.int .i64 x.a) (by rw [hx]; rfl)
            have c1 := Recs.cell (show Recs wo 2 Pr.cells ao3 l cap3 b3 0 from hr) Pr.len k hlt 1 (.int .i64 x.b) (by rw [hx]; rfl)
            simp only [Nat.zero_add, Nat.add_zero] at c0 c1 hix
            obtain ⟨G, hG⟩ : ∃ G, gotN date L (l.take k) = G := ⟨_, rfl⟩
            obtain ⟨R, hR⟩ : ∃ R, linesP date x.a x.b L = R := ⟨_, rfl⟩
            have hG2 : gotN date L (l.take (k + 1)) = G + R.length := by rw [take_snoc _ k hlt, hx, gotN_snoc, hG, hR]
            have hGl := gotN_le (date := date) (L := L) l (k + 1)
            rw [hG2, HGA.out] at hGl
            have hRp := lines_pos HPA.out (x := x) (by rw [← hx]; exact List.getElem_mem ..)
            rw [hR] at hRp
            have HLX := Lib.hid (HLN.out x)
            have HOX := Lib.hid (HON.out x)
            have HOP : Hid (openP date x.a x.b L ms = R.filter (fun r => !mref ms r)) := Lib.hid (by rw [openP, hR])
            rw [hR] at HLX
            rw [hG]
            have HGG := Lib.hid hG2
            have HKB : Hid (Keeps w2 (wo.alloc (.cells #[.int .i64 x.a, .int .i64 x.b] 66))) := Lib.hid ((HK3.out.trans HV.out).alloc _)
            have hrgo := HRG.out _ HKB.out
            clear hr hx hG hR hG2
            go_wp2_with (first | (guard_hyp hrgo : _; refine wpList_books rfl (.tmp 2) rfl w.heap.size bv hbl rfl hrgo ?_; clear hrgo) | (go_at_call 15; refine (HLX.out _ (K2.out.trans HKB.out)).mono ?_; rintro e w4 ⟨v4, rfl, ⟨ao4, cap4, b4, rfl, hs4⟩, hk4⟩; have HS4 := Lib.hid hs4; have hle4 := hs4.le; have hcap4 := hs4.cap; have HK4 := Lib.hid (HKB.out.trans hk4); have z0 := hk4.cell (p := ⟨wo.heap.size, 0, none⟩) (v := .int .i64 x.a) (by go_simp); have z1 := hk4.cell (p := ⟨wo.heap.size, 1, none⟩) (v := .int .i64 x.b) (by go_simp); have hzo : Keeps w3 w4 := (HV.out.alloc _).trans hk4; have HK5 := Lib.hid hzo; clear hs4 hk4 hzo))
            go_loopw [14, 69] (fun vo vi wr => ∃ j m : Nat, j ≤ R.length ∧ m ≤ j ∧ vi = .int .i64 j ∧ Hid (((R.take j).filter (fun r => !mref ms r)).length = m ∧ Keeps w4 wr ∧ wr.ownsRow w4.heap.size 59 2 vo m (((R.take j).filter (fun r => !mref ms r)).flatMap Rf.cells))) (fun _ vi _ => R.length - (intOf vi).toNat)
            case atStart => exact ⟨0, 0, Nat.zero_le _, Nat.le_refl _, rfl, Lib.hid ⟨rfl, Keeps.refl w4, World.ownsRow_nil _ _ _ _⟩⟩
            case round =>
              obtain ⟨j, m, hj, hmj, rfl, HX⟩ := hrel
              by_cases hjl : j < R.length
              · have hr2 : Recs wr 2 Rf.cells ao4 R cap4 b4 0 := HS4.out.keeps HX.out.2.1
                have hix2 := Sl.at hr2 Try.underlying45 Try.sizeOf59 j hjl
                obtain ⟨r, hrj⟩ : ∃ r, R[j] = r := ⟨_, rfl⟩
                have d0 := hr2.cell Rf.len j hjl 0 (.int .i64 r.e) (by rw [hrj]; rfl)
                have d1 := hr2.cell Rf.len j hjl 1 (.int .i64 r.l) (by rw [hrj]; rfl)
                simp only [Nat.zero_add, Nat.add_zero] at d0 d1 hix2
                obtain ⟨q, hq⟩ : ∃ q, mref ms r = q := ⟨_, rfl⟩
                have HMA : Hid (∀ W, Keeps w W → Calls Try.prog 26 #[.agg bv.toArray, .agg #[.int .i64 r.e, .int .i64 r.l]] W fun e w' => e = .returned (.bool q) ∧ Keeps W w') := Lib.hid (fun W h => by have := HMR.out r W h; rw [hq] at this; exact this)
                have HT : Hid ((R.take (j + 1)).filter (fun r => !mref ms r) = if q then (R.take j).filter (fun r => !mref ms r) else (R.take j).filter (fun r => !mref ms r) ++ [r]) := Lib.hid (by
                  rw [take_snoc _ j hjl, hrj, List.filter_append, List.filter_cons, hq]
                  cases q <;> simp)
                have HKR : Hid (Keeps w4 (wr.alloc (.cells #[.int .i64 r.e, .int .i64 r.l] 59))) := Lib.hid (HX.out.2.1.alloc _)
                have hrgr := HRG.out _ (HK4.out.trans HKR.out)
                clear hr2 hrj hq
                cases q with
                | true =>
                  rw [if_pos rfl] at HT
                  go_wp2_with (first | (guard_hyp hrgr : _; refine wpList_books rfl (.tmp 2) rfl w.heap.size bv hbl rfl hrgr ?_; clear hrgr) | (go_at_call 26; refine (HMA.out _ (K2.out.trans (HK4.out.trans HKR.out))).mono ?_; rintro e w5 ⟨rfl, hk5⟩; have HK6 := Lib.hid (HKR.out.trans hk5); have HZ := Lib.hid (own_keepsP HX.out.2.2 (((Keeps.refl wr).alloc _).trans hk5)); clear hk5))
                  go_roundw
                  case rel => exact ⟨j + 1, m, by omega, by omega, by go_num, Lib.hid (by rw [HT.out]; exact ⟨HX.out.1, HK6.out, HZ.out⟩)⟩
                  case measure => simp [intOf]; omega
                | false =>
                  rw [if_neg (by simp)] at HT
                  go_wp2_with (first | (guard_hyp hrgr : _; refine wpList_books rfl (.tmp 2) rfl w.heap.size bv hbl rfl hrgr ?_; clear hrgr) | (go_at_call 26; refine (HMA.out _ (K2.out.trans (HK4.out.trans HKR.out))).mono ?_; rintro e w5 ⟨rfl, hk5⟩; have HK6 := Lib.hid (HKR.out.trans hk5); have HZ := Lib.hid (own_keepsP HX.out.2.2 (((Keeps.refl wr).alloc _).trans hk5)); have a0 := hk5.cell (p := ⟨wr.heap.size, 0, none⟩) (v := .int .i64 r.e) (by go_simp); have a1 := hk5.cell (p := ⟨wr.heap.size, 1, none⟩) (v := .int .i64 r.l) (by go_simp); clear hk5) | (at_builtin; (refine wpList_appx elemRef rfl _ _ rfl w4 _ _ _ rfl w4.heap.size HZ.out HK6.out HK6.out.size [.int .i64 r.e, .int .i64 r.l] _ 1 rfl rfl rfl (Rf.one r) (by omega) (by omega) ?_); intro v6 w6 hown6 hb6 hsz6; have HY : Hid (((R.take (j + 1)).filter (fun r => !mref ms r)).length = m + 1 ∧ Keeps w4 w6 ∧ w6.ownsRow w4.heap.size 59 2 v6 (m + 1) (((R.take (j + 1)).filter (fun r => !mref ms r)).flatMap Rf.cells)) := (Lib.hid ⟨by rw [HT.out, List.length_append, HX.out.1]; rfl, hb6, by rw [HT.out, List.flatMap_append]; exact hown6⟩); clear hown6 hb6 hsz6))
                  go_roundw
                  case rel => exact ⟨j + 1, m + 1, by omega, by omega, by go_num, HY⟩
                  case measure => simp [intOf]; omega
              · obtain rfl : j = R.length := by omega
                have hx := HX.out
                rw [List.take_length, ← HOP.out] at hx
                obtain ⟨O, hO⟩ : ∃ O, openP date x.a x.b L ms = O := ⟨_, rfl⟩
                rw [hO] at hx HOX
                obtain ⟨h1, h2, h3⟩ := hx
                rw [← h1] at h3
                obtain ⟨ao5, cap5, b5, e5, hs5⟩ := Sl.own h3
                subst e5
                have HS5 := Lib.hid hs5
                have HK7 := Lib.hid h2
                have y0 := h2.cell z0
                have y1 := h2.cell z1
                have hrgf := HRG.out _ (HK4.out.trans h2)
                have hz : ((R.length : Int) == 0) = false := by rw [beq_eq_false_iff_ne]; omega
                clear h1 h2 h3 hs5 HX hO hmj hjl
                go_wp2_with (first | (guard_hyp hrgf : _; refine wpList_booksG (.tmp 2) rfl rfl w.heap.size bv hbl rfl hrgf ?_; clear hrgf) | (go_at_call 19; refine (HOX.out _ (K2.out.trans (HK4.out.trans HK7.out))).mono ?_; rintro e w6 ⟨v6, rfl, ⟨ao6, cap6, b6, rfl, hs6⟩, hk6⟩; have HS6 := Lib.hid hs6; have HK8 := Lib.hid (HK7.out.trans hk6); have HS7 := Lib.hid (HS5.out.keeps hk6); clear hs6 hk6) | (go_at_call 16; refine (samer_any _ _ _ _ _ _ _ _ _ _ HS6.out HS7.out).mono ?_; rintro e w7 ⟨rfl, q7, rfl⟩))
                go_roundw
                case rel => exact ⟨k + 1, by omega, by go_num, by rw [HGG.out]; exact congrArg (Value.int .i64) (by omega), Lib.hid (HK5.out.trans (HK8.out.drewN _))⟩
                case measure => simp [intOf]; omega
          · obtain rfl : k = l.length := by omega
            rw [List.take_length, HGA.out, ← HNT.out]
            go_wp2_with fail
            go_ret
            exact ⟨by simp, K2.out.trans (HK3.out.trans HV.out)⟩
end Go.Proofs.Ytfddhmhagijodaa
