/- The law on dates, plain: lines up to an earlier date are a beginning; sums add up. No program is walked; The reference's Of: the walk. -/
import Derived.Test.YtfddhmhagijodaaNetW
namespace Go.Proofs.Ytfddhmhagijodaa
open Go.RowKit
set_option linter.unusedSimpArgs false
set_option linter.unusedVariables false

theorem insP_perm (p : Plc) (L : List Plc) : (insP p L).Perm (p :: L) := by
  induction L with
  | nil => exact List.Perm.refl _
  | cons q t ih =>
    unfold insP
    split
    · exact (ih.cons q).trans (List.Perm.swap p q t)
    · exact List.Perm.refl _
theorem sortPl_perm (L : List Plc) : (sortPl L).Perm L := by
  have h : ∀ (M out : List Plc), (M.foldl (fun out p => insP p out) out).Perm (out ++ M) := by
    intro M
    induction M with
    | nil => intro out; simp
    | cons p M ih =>
      intro out
      rw [List.foldl_cons]
      refine (ih (insP p out)).trans (((insP_perm p out).append_right M).trans ?_)
      rw [List.cons_append]
      exact (List.perm_middle (a := p) (l₁ := out) (l₂ := M)).symm
  simpa [sortPl] using h L []
/-- What an entry adds to an account. -/
def jt (d en pt c : Int) (x : Jrn) : Int := tot ((jPls d 0 x).filter (fun p => !outsB en pt p)) c
theorem lns_tot (en pt c : Int) (x : Jrn) (i j : Nat) : ∀ (t : List Ln) (k : Nat), tot ((lnsAt x i k t).filter (fun p => !outsB en pt p)) c = tot ((lnsAt x j k t).filter (fun p => !outsB en pt p)) c
  | [], k => rfl
  | l :: t, k => by
    rw [lnsAt, lnsAt, List.filter_cons, List.filter_cons]
    have e : outsB en pt ⟨x.id, k, x.date, i, x.ent, l.acc, l.amt, l.ptn⟩ = outsB en pt ⟨x.id, k, x.date, j, x.ent, l.acc, l.amt, l.ptn⟩ := rfl
    rw [e]
    split
    · rw [tot, tot, lns_tot en pt c x i j t (k + 1)]
    · exact lns_tot en pt c x i j t (k + 1)
theorem jPls_tot (d en pt c : Int) (x : Jrn) (i : Nat) : tot ((jPls d i x).filter (fun p => !outsB en pt p)) c = jt d en pt c x := by
  unfold jt jPls
  split
  · rfl
  · exact lns_tot en pt c x i 0 _ _
/-- What entries add to an account. -/
def jts (d en pt c : Int) : List Jrn → Int
  | [] => 0
  | x :: t => jt d en pt c x + jts d en pt c t
theorem plsAt_tot (d en pt c : Int) : ∀ (t : List Jrn) (i : Nat), tot ((plsAt d i t).filter (fun p => !outsB en pt p)) c = jts d en pt c t
  | [], i => rfl
  | x :: t, i => by rw [plsAt, List.filter_append, tot_append, jPls_tot, plsAt_tot d en pt c t (i + 1), jts]
theorem btw_tot (d en pt c : Int) (l : List Jrn) : tot (btw d en pt l) c = jts d en pt c l := by
  unfold btw places
  rw [tot_perm ((sortPl_perm (plsAt d 0 l)).filter _) c, plsAt_tot]
theorem jts_append (d en pt c : Int) (l m : List Jrn) : jts d en pt c (l ++ m) = jts d en pt c l + jts d en pt c m := by
  induction l with
  | nil => simp [jts]
  | cons x l ih => rw [List.cons_append, jts, jts, ih]; omega
theorem jt_late {d late en pt c : Int} (h : d ≤ late) (x : Jrn) : jt late en pt c x = jt d en pt c x + (if x.date > d then jt late en pt c x else 0) := by
  by_cases hx : x.date > d
  · rw [if_pos hx]
    have : jt d en pt c x = 0 := by unfold jt jPls; rw [if_pos hx]; rfl
    omega
  · rw [if_neg hx]
    have : jt late en pt c x = jt d en pt c x := by unfold jt jPls; rw [if_neg hx, if_neg (by omega)]
    omega
/-- The sums up to a later date: those up to an earlier one and those of the entries in between. -/
theorem jts_late {d late en pt c : Int} (h : d ≤ late) (l : List Jrn) : jts late en pt c l = jts d en pt c l + jts late en pt c (l.filter (fun x => decide (x.date > d))) := by
  induction l with
  | nil => rfl
  | cons x t ih =>
    rw [jts, jts, ih, List.filter_cons, jt_late h x]
    by_cases hx : x.date > d
    · rw [if_pos hx, if_pos (by simpa using hx), jts]; omega
    · rw [if_neg hx, if_neg (by simpa using hx)]; omega
/-- The sum of an account in a list of balances. -/
def totB : List Bal → Int → Int
  | [], _ => 0
  | x :: t, c => (if x.acc = c then x.amount else 0) + totB t c
theorem totB_none {l : List Bal} {c : Int} (h : ∀ x ∈ l, x.acc ≠ c) : totB l c = 0 := by
  induction l with
  | nil => rfl
  | cons x t ih => rw [totB, if_neg (h x (List.mem_cons_self ..)), ih (fun y hy => h y (List.mem_cons_of_mem _ hy))]; rfl
theorem totB_mem {l : List Bal} (ha : AscN l) {x : Bal} (hx : x ∈ l) : totB l x.acc = x.amount := by
  induction l with
  | nil => exact absurd hx List.not_mem_nil
  | cons y t ih =>
    unfold AscN at ha
    rw [List.pairwise_cons] at ha
    rw [totB]
    rcases List.mem_cons.1 hx with rfl | hx
    · rw [if_pos rfl, totB_none (fun z hz e => by have := ha.1 z hz; omega)]; omega
    · rw [if_neg (fun e => by have := ha.1 x hx; omega), ih ha.2 hx]; omega
theorem netz_tot {L : List Plc} {l : List Bal} (h : NetZ L l) (c : Int) : totB l c = wr64 (tot L c) := by
  by_cases h0 : wr64 (tot L c) = 0
  · rw [h0]
    refine totB_none fun x hx e => ?_
    have := (h.2 x).1 hx
    rw [e, h0] at this
    exact this.1 this.2
  · have hm : (⟨c, wr64 (tot L c)⟩ : Bal) ∈ l := (h.2 _).2 ⟨h0, rfl⟩
    exact totB_mem h.1 hm
/-- What Of gives. -/
def ofW (l : List Bal) (c : Int) : Int := l.foldl (fun n x => if x.acc = c then wr64 (n + x.amount) else n) 0
theorem ofW_eq (l : List Bal) (c : Int) : ofW l c = wr64 (totB l c) := by
  have h : ∀ (l : List Bal) (s : Int), l.foldl (fun n x => if x.acc = c then wr64 (n + x.amount) else n) (wr64 s) = wr64 (s + totB l c) := by
    intro l
    induction l with
    | nil => intro s; simp [totB]
    | cons x t ih =>
      intro s
      rw [List.foldl_cons, totB]
      by_cases hx : x.acc = c
      · rw [if_pos hx, if_pos hx, wr64_add, ih]; congr 1; omega
      · rw [if_neg hx, if_neg hx, ih]; congr 1; omega
  have := h l 0
  rw [Int.zero_add] at this
  exact this
theorem ofW_snoc (l : List Bal) (x : Bal) (c : Int) : ofW (l ++ [x]) c = if x.acc = c then wr64 (ofW l c + x.amount) else ofW l c := by unfold ofW; rw [List.foldl_append]; rfl
/-- The law on the sums. -/
theorem dates_sum {d late en pt : Int} (h : d ≤ late) (l : List Jrn) {g1 g2 g3 : List Bal} (h1 : NetZ (btw d en pt l) g1) (h2 : NetZ (btw late en pt (l.filter (fun x => decide (x.date > d)))) g2) (h3 : NetZ (btw late en pt l) g3) (c : Int) :
    wr64 (ofW g1 c + ofW g2 c) = ofW g3 c := by
  rw [ofW_eq, ofW_eq, ofW_eq, netz_tot h1, netz_tot h2, netz_tot h3, btw_tot, btw_tot, btw_tot, jts_late h l]
  have e : ∀ z, wr64 (wr64 z) = wr64 z := fun z => wr64_same (wr64_rng z)
  rw [e, e, e, wr64_add2]
/-- The lines up to an earlier date are a beginning. -/
theorem filter_take {M : List Plc} (d : Int) (h : M.Pairwise (fun a b => a.date ≤ b.date)) : M.filter (fun p => decide (p.date ≤ d)) = M.take (M.filter (fun p => decide (p.date ≤ d))).length := by
  induction M with
  | nil => rfl
  | cons p t ih =>
    rw [List.pairwise_cons] at h
    by_cases hp : p.date ≤ d
    · have e : (p :: t).filter (fun p => decide (p.date ≤ d)) = p :: t.filter (fun p => decide (p.date ≤ d)) := by rw [List.filter_cons, if_pos (by simpa using hp)]
      rw [e, List.length_cons, List.take_succ_cons, ← ih h.2]
    · have e : (p :: t).filter (fun p => decide (p.date ≤ d)) = [] := by
        rw [List.filter_eq_nil_iff]
        intro q hq
        rcases List.mem_cons.1 hq with rfl | hq
        · simpa using hp
        · have := h.1 q hq; simp; omega
      rw [e]; rfl
theorem plt_date {a b : Plc} (h : PLt a b) : a.date ≤ b.date := by rw [plt_iff] at h; omega
theorem btw_early {d late en pt : Int} (h : d ≤ late) (l : List Jrn) : btw d en pt l = (btw late en pt l).take (btw d en pt l).length := by
  have e : btw d en pt l = (btw late en pt l).filter (fun p => decide (p.date ≤ d)) := by
    unfold btw
    rw [places_filter d late h, List.filter_filter, List.filter_filter]
    congr 1
    funext p
    exact Bool.and_comm _ _
  have hs : (btw late en pt l).Pairwise (fun a b => a.date ≤ b.date) := by
    unfold btw places
    exact ((sortPl_sorted (plsAt_apart late l 0)).filter _).imp plt_date
  have := filter_take d hs
  rw [← e] at this
  exact this
theorem linesP_early {d late en pt : Int} (h : d ≤ late) (l : List Jrn) : linesP d en pt l = (linesP late en pt l).take (linesP d en pt l).length := by
  unfold linesP
  rw [List.length_map, ← List.map_take, ← btw_early h]
end Go.Proofs.Ytfddhmhagijodaa

namespace Go.Proofs.Ytfddhmhagijodaa
open Go.RowKit
set_option linter.unusedSimpArgs false
set_option linter.unusedVariables false

set_option maxRecDepth 100000 in
set_option maxHeartbeats 1000000 in
theorem of_any (l : List Bal) (c : Int) (ao : Option Addr) (cap b o : Nat) (w : World) (H : Recs w 2 Bal.cells ao l cap b o) :
    Calls Try.prog 17 #[.slice ao l.length cap, .int .i64 c] w fun e w' => e = .returned (.int .i64 (ofW l c)) ∧ w' = w := by
  have hcap := Sl.cap H
  have hle := Sl.le H
  go_enter Try.func17, Try.ntmps17
  go_wp2_with fail
  go_loopw [5, 6] (fun vn vi wr => ∃ (k : Nat) (n : Int), k ≤ l.length ∧ vi = .int .i64 k ∧ vn = .int .i64 n ∧ wr = w ∧ Hid (n = ofW (l.take k) c)) (fun _ vi _ => l.length - (intOf vi).toNat)
  case atStart => exact ⟨0, 0, Nat.zero_le _, rfl, rfl, rfl, Lib.hid rfl⟩
  case round =>
    obtain ⟨k, n, hk, rfl, rfl, rfl, HN⟩ := hrel
    by_cases hlt : k < l.length
    · have hix := Sl.at H Try.underlying42 Try.sizeOf52 k hlt
      obtain ⟨q, hq⟩ : ∃ q, l[k] = q := ⟨_, rfl⟩
      have c0 := H.cell Bal.len k hlt 0 (.int .i64 q.acc) (by rw [hq]; rfl)
      have c1 := H.cell Bal.len k hlt 1 (.int .i64 q.amount) (by rw [hq]; rfl)
      simp only [Nat.add_zero] at c0
      have HT : Hid (ofW (l.take (k + 1)) c = if q.acc = c then wr64 (n + q.amount) else n) := Lib.hid (by rw [take_snoc _ k hlt, hq, ofW_snoc, ← HN.out])
      clear hq
      by_cases h1 : q.acc = c
      · have e1 : (q.acc == c) = true := by simpa using h1
        rw [if_pos h1] at HT
        clear h1
        go_wp2_with fail
        go_roundw
        case rel => exact ⟨k + 1, wrap64 (n + q.amount), by omega, by go_num, rfl, by first | rfl | trivial, Lib.hid (by rw [HT.out, wr64_eq])⟩
        case measure => simp [intOf]; omega
      · have e1 : (q.acc == c) = false := by simpa using h1
        rw [if_neg h1] at HT
        clear h1
        go_wp2_with fail
        go_roundw
        case rel => exact ⟨k + 1, n, by omega, by go_num, rfl, by first | rfl | trivial, Lib.hid HT.out.symm⟩
        case measure => simp [intOf]; omega
    · obtain rfl : k = l.length := by omega
      have HF : Hid (n = ofW l c) := Lib.hid (by have := HN.out; rwa [List.take_length] at this)
      go_wp2_with fail
      go_ret
      exact ⟨by rw [← HF.out]; rfl, rfl⟩
end Go.Proofs.Ytfddhmhagijodaa
