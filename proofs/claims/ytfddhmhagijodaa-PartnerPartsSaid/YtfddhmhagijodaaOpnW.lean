/- partner.Open: the walk. -/
import Derived.Test.YtfddhmhagijodaaMatW
import Derived.Test.YtfddhmhagijodaaDelR
namespace Go.Proofs.Ytfddhmhagijodaa
open Go.RowKit Go.Shelf Go.Lib Go.Sort
set_option linter.unusedSimpArgs false
set_option linter.unusedVariables false

theorem delr_nil (bs mb mn : Nat) (M : Rf → Bool) (w : World) (he : w.cell? ⟨bs, 0, none⟩ = some (.map (some mb))) (hp : VMap refK w mb mn (setM M)) :
    Calls Try.prog 33 #[.slice none 0 0, .func (.func 34) #[] #[.pointer (some ⟨bs, 0, none⟩)]] w
      fun e w' => e = .returned (.slice none 0 0) ∧ Keeps w w' := by
  have HI : Hid (Calls Try.prog 50 #[.slice none 0 0, .func (.func 34) #[] #[.pointer (some ⟨bs, 0, none⟩)]] w (IdxPostR w M [])) := Lib.hid
    (idxr_any bs mb mn M none [] 0 0 0 w (Sl.nil w _) he hp (fun r hr => absurd hr List.not_mem_nil))
  clear hp
  go_enter Try.func33, Try.ntmps33
  go_wp2_with (go_at_call 50; refine HI.out.mono ?_; rintro e w1 ⟨hk1, k, hk, HZ, ⟨rfl, rfl⟩ | ⟨hkl, hob, rfl⟩⟩)
  go_ret
  exact ⟨rfl, hk1⟩
theorem delr_own (bs mb mn : Nat) (M : Rf → Bool) (base : Nat) (v : Value) (xs : List Rf) (w : World) (H : w.ownsRow base 59 2 v xs.length (xs.flatMap Rf.cells)) (hb : base ≤ w.heap.size) (hbe : bs < base) (hbp : mb < base)
    (he : w.cell? ⟨bs, 0, none⟩ = some (.map (some mb))) (hp : VMap refK w mb mn (setM M)) (hok : ∀ r ∈ xs, r.Ok) :
    Calls Try.prog 33 #[v, .func (.func 34) #[] #[.pointer (some ⟨bs, 0, none⟩)]] w
      fun e w' => ∃ v, e = .returned v ∧ w'.ownsRow base 59 2 v (xs.filter (fun p => !M p)).length ((xs.filter (fun p => !M p)).flatMap Rf.cells) ∧ Below base w w' := by
  rcases H.2 with ⟨rfl, h0⟩ | ⟨g, cap, cur, rfl, _⟩
  · have hz := List.eq_nil_of_length_eq_zero h0
    subst hz
    refine (delr_nil bs mb mn M w he hp).mono ?_
    rintro e w' ⟨rfl, hk⟩
    exact ⟨_, rfl, World.ownsRow_nil _ _ _ _, hk.mono hb⟩
  · exact delr_any bs mb mn M base g cap xs w H hb hbe hbp he hp hok
/-- The references of the open lines. -/
def openP (date en pt : Int) (l : List Jrn) (ms : List MV) : List Rf := (linesP date en pt l).filter (fun r => !mref ms r)
theorem linesP_ok {date en pt : Int} {l : List Jrn} (h : ∀ x ∈ l, x.Ok ∧ x.lines.length ≤ 8) : ∀ r ∈ linesP date en pt l, r.Ok := fun r hr => by
  obtain ⟨p, hp, rfl⟩ := List.mem_map.1 hr
  have h := btw_ok h p hp
  exact ⟨h.2.2.2.2.1, h.2.2.2.2.2.1⟩
set_option maxRecDepth 100000 in
set_option maxHeartbeats 1000000 in
theorem open_any (bv : List Value) (es : List JV) (ms : List MV) (en pt date : Int) (w : World) (H : Bks w bv es ms)
    (hn40 : es.length ≤ 42) (hm8 : ∀ e ∈ es, e.x.lines.length ≤ 8) (hn : ms.length ≤ 20) (hl : ∀ m ∈ ms, m.x.left.length + m.x.right.length ≤ 20) :
    Calls Try.prog 19 #[.agg bv.toArray, .int .i64 en, .int .i64 pt, .int .i64 date] w
      fun e w' => ∃ v, e = .returned v ∧ w'.ownsRow w.heap.size 59 2 v (openP date en pt (es.map JV.x) ms).length ((openP date en pt (es.map JV.x) ms).flatMap Rf.cells) ∧ Keeps w w' := by
  have hbl := H.len
  have HP : Hid (∀ W, Keeps w W → Calls Try.prog 15 #[.agg bv.toArray, .int .i64 en, .int .i64 pt, .int .i64 date] W
      fun e w' => ∃ v, e = .returned v ∧ w'.ownsRow W.heap.size 59 2 v (linesP date en pt (es.map JV.x)).length ((linesP date en pt (es.map JV.x)).flatMap Rf.cells) ∧ Keeps W w') := Lib.hid (fun W hW => by
    obtain ⟨ao, cap, b, o, he, hj⟩ := H.ents
    exact lines_any bv hbl H.one es ao cap b o he en pt date W (hj.keeps hW) hn40 hm8)
  have HM := Lib.hid (fun W hW => matched_any bv es ms W (H.keeps hW) hn hl)
  have HOK := Lib.hid (linesP_ok (date := date) (en := en) (pt := pt) (l := es.map JV.x) (fun x hx => by obtain ⟨e, he, rfl⟩ := List.mem_map.1 hx; exact ⟨H.ok e he, hm8 e he⟩))
  obtain ⟨P, hP⟩ : ∃ P, linesP date en pt (es.map JV.x) = P := ⟨_, rfl⟩
  have HB : Hid (openP date en pt (es.map JV.x) ms = P.filter (fun r => !mref ms r)) := Lib.hid (by rw [openP, hP])
  rw [hP] at HP HOK
  clear hP H hm8 hl
  have hrg := box_range w bv 36
  have hk0 : Keeps w (w.alloc (.cells bv.toArray 36)) := (Keeps.refl w).alloc _
  go_enter Try.func19, Try.ntmps19
  go_wp2_with (first | (guard_hyp hrg2 : _; refine wpList_books rfl (.tmp 4) rfl w.heap.size bv hbl rfl hrg2 ?_; clear hrg2) | (refine wpList_books rfl (.tmp 4) rfl w.heap.size bv hbl rfl hrg ?_) | (go_at_call 32; refine (HM.out _ hk0).mono ?_; rintro e w1 ⟨mb, rfl, hmb, hmv, hk1⟩; have hrg2 := range_keeps hrg (hk1.trans ((Keeps.refl w1).alloc (.cells #[.map (some mb)] 85))); have HV1 := Lib.hid (hmv.alloc (.cells #[.map (some mb)] 85)); have HK1 := Lib.hid ((hk0.trans hk1).alloc (.cells #[.map (some mb)] 85)); clear hmv hk1) | (go_at_call 15; (refine (HP.out _ HK1.out).mono ?_); rintro e w2 ⟨v1, rfl, ho1, hk2⟩; have he1 := hk2.cell (p := ⟨w1.heap.size, 0, none⟩) (v := .map (some mb)) (by go_simp); have HV2 := Lib.hid (HV1.out.keeps hk2)) | (go_at_call 33; (refine (delr_own w1.heap.size mb 400 (mref ms) _ v1 P w2 ho1 hk2.size (by simp) (by simp; omega) he1 HV2.out HOK.out).mono ?_); rintro e w3 ⟨v2, rfl, ho2, hb2⟩))
  go_ret
  rw [HB.out]
  have hsz := HK1.out.size
  exact ⟨_, rfl, own_baseP ho2 hsz, HK1.out.trans (Below.trans hk2 (hb2.mono (by omega)))⟩
end Go.Proofs.Ytfddhmhagijodaa
