/- Running of both texts: the walks: they return runS. -/
import Derived.Test.YtppjjmjdiccloaaMoneyW
import Derived.Test.YtppjjmjdiccloaaRunP
namespace Go.Proofs.Ytppjjmjdiccloaa
open Go.RowKit

/-- The cells that the closure of Running captures. -/
structure RunBox (w : World) (B C : Nat) (num den s l : Int) : Prop where
  lt : B + 1 < C
  hn : w.heap[B]? = some (.cells #[.int .i64 num] 3 (0, 0))
  hd : w.heap[B + 1]? = some (.cells #[.int .i64 den] 3 (0, 0))
  hs : w.heap[C]? = some (.cells #[.int .i64 s] 3 (0, 0))
  hl : w.heap[C + 1]? = some (.cells #[.int .i64 l] 3 (0, 0))

theorem RunBox.drewN {w : World} {B C : Nat} {num den s l : Int} (h : RunBox w B C num den s l) (n : Nat) : RunBox (w.drewN n) B C num den s l := ⟨h.lt, h.hn, h.hd, h.hs, h.hl⟩
theorem RunBox.store {w : World} {B C : Nat} {num den s l : Int} (h : RunBox w B C num den s l) (s' l' : Int) :
    RunBox ((w.setCell ⟨C, 0, none⟩ (.int .i64 s')).setCell ⟨C + 1, 0, none⟩ (.int .i64 l')) B C num den s' l' := by
  have hlt := h.lt
  have h1 := one_setCell (u := .int .i64 s') h.hs
  refine ⟨hlt, ?_, ?_, ?_, ?_⟩
  · rw [Below.heap_setCell _ _ _ _ (by simp; try omega), Below.heap_setCell _ _ _ _ (by simp; try omega)]; exact h.hn
  · rw [Below.heap_setCell _ _ _ _ (by simp; try omega), Below.heap_setCell _ _ _ _ (by simp; try omega)]; exact h.hd
  · rw [Below.heap_setCell _ _ _ _ (by simp; try omega)]; exact h1
  · exact one_setCell (by rw [Below.heap_setCell _ _ _ _ (by simp; try omega)]; exact h.hl)

def NextPost (w : World) (C : Nat) (num den s l n : Int) (e : Ending) (w' : World) : Prop :=
  if amt (s + n) = true ∧ (portionS (s + n) num den).2 = 0 then
    e = .returned (.tuple #[.int .i64 ((portionS (s + n) num den).1 - l), .int .i64 0]) ∧ ∃ q, w' = ((w.setCell ⟨C, 0, none⟩ (.int .i64 (s + n))).setCell ⟨C + 1, 0, none⟩ (.int .i64 (portionS (s + n) num den).1)).drewN q
  else e = .returned (.tuple #[.int .i64 0, .int .i64 2]) ∧ Below C w w'

set_option maxHeartbeats 400000 in
theorem next_any (n num den s l : Int) (B C : Nat) (w : World) (h : RunBox w B C num den s l) (hs : -1000000000000 ≤ s ∧ s ≤ 1000000000000) (hn : -1000000000000 ≤ n ∧ n ≤ 1000000000000) (hl : -1000000000000 ≤ l ∧ l ≤ 1000000000000) (hp : pok 0 num den = true) :
    Calls Try.prog 29 #[.int .i64 n, .pointer (some ⟨C, 0, none⟩), .pointer (some ⟨B, 0, none⟩), .pointer (some ⟨B + 1, 0, none⟩), .pointer (some ⟨C + 1, 0, none⟩)] w fun e w' => NextPost w C num den s l n e w' := by
  have hlt := h.lt
  have c0 := cell_of_one h.hn
  have c1 := cell_of_one h.hd
  have c2 := cell_of_one h.hs
  have f2 := free_of_one h.hs
  have c3 := cell_of_one h.hl
  have f3 := free_of_one h.hl
  have hpa := portion_amt (s + n) num den
  cases ha : amt (s + n)
  · have hN : ∀ e w', e = .returned (.tuple #[.int .i64 0, .int .i64 2]) → Below C w w' → NextPost w C num den s l n e w' := by
      intro e w' h1 h2
      rw [NextPost, if_neg (by rw [ha]; simp)]
      exact ⟨h1, h2⟩
    have HN := Lib.hid hN
    clear hN
    go_enter Try.func29, Try.ntmps29
    go_wp2_with (go_at_call 28; refine (mvalid_any _ _).mono ?_; rintro e w' ⟨rfl, rfl⟩)
    go_ret2
    exact HN.out _ _ rfl ((Below.refl _ _).setCell (by simp) _)
  · have hpk := pok_of hp ha
    rcases portion_err (s + n) num den hpk with he | he
    · have hN : ∀ e w', e = .returned (.tuple #[.int .i64 ((portionS (s + n) num den).1 - l), .int .i64 0]) → (∃ q, w' = ((w.setCell ⟨C, 0, none⟩ (.int .i64 (s + n))).setCell ⟨C + 1, 0, none⟩ (.int .i64 (portionS (s + n) num den).1)).drewN q) → NextPost w C num den s l n e w' := by
        intro e w' h1 h2
        rw [NextPost, if_pos ⟨ha, he⟩]
        exact ⟨h1, h2⟩
      have HN := Lib.hid hN
      clear hN hpk
      go_enter Try.func29, Try.ntmps29
      go_wp2_with (first | (go_at_call 28; refine (mvalid_any _ _).mono ?_; rintro e w' ⟨rfl, rfl⟩) | (go_at_call 21; refine (mportion_any _ _ _ _).mono ?_; rintro e w' ⟨rfl, nd, rfl⟩))
      go_ret2
      exact HN.out _ _ rfl ⟨_, rfl⟩
    · have hN : ∀ e w', e = .returned (.tuple #[.int .i64 0, .int .i64 2]) → Below C w w' → NextPost w C num den s l n e w' := by
        intro e w' h1 h2
        rw [NextPost, if_neg (by rw [he]; simp)]
        exact ⟨h1, h2⟩
      have HN := Lib.hid hN
      clear hN hpk
      go_enter Try.func29, Try.ntmps29
      go_wp2_with (first | (go_at_call 28; refine (mvalid_any _ _).mono ?_; rintro e w' ⟨rfl, rfl⟩) | (go_at_call 21; refine (mportion_any _ _ _ _).mono ?_; rintro e w' ⟨rfl, nd, rfl⟩))
      go_ret2
      exact HN.out _ _ rfl (below_drewN ((Below.refl _ _).setCell (by simp) _) _)

theorem infoInt : (Try.prog.info? 3).map (fun i => (i.zero, i.size, i.bytes)) = some (some (.int .i64 0), 1, 8) := by kernel_rfl

/-- The relation of the second loop of Running. -/
def RRel (w : World) (l : List Int) (num den : Int) (B C g : Nat) (out i : Value) (wr : World) : Prop :=
  ∃ k : Nat, k ≤ l.length ∧ i = .int .i64 k ∧ out = .slice (some ⟨g, 0, none⟩) k l.length ∧
    wr.ownsRow (C + 2) 3 1 (.slice (some ⟨g, 0, none⟩) k l.length) k ((runL l num den k).map (.int .i64)) ∧
    RunBox wr B C num den (lsum (l.take k)) (runP l num den k) ∧ Below C w wr ∧ C + 2 ≤ wr.heap.size ∧ (∀ j, j < k → runOk l num den (j + 1) = true)

/-- What a round leaves behind. -/
theorem rstep {w wr w' : World} {l : List Int} {num den : Int} {B C g k : Nat} 
    (hown : wr.ownsRow (C + 2) 3 1 (.slice (some ⟨g, 0, none⟩) k l.length) k ((runL l num den k).map (.int .i64)))
    (hbox : RunBox wr B C num den (lsum (l.take k)) (runP l num den k)) (hb : Below C w wr) (hsz : C + 2 ≤ wr.heap.size) (hok : ∀ j, j < k → runOk l num den (j + 1) = true)
    {s p : Int} (q : Nat) (hs : s = lsum (l.take (k + 1))) (hp' : p = runP l num den (k + 1)) (hrk : runOk l num den (k + 1) = true)
    (hw : w' = ((wr.setCell ⟨C, 0, none⟩ (.int .i64 s)).setCell ⟨C + 1, 0, none⟩ (.int .i64 p)).drewN q) :
    w'.ownsRow (C + 2) 3 1 (.slice (some ⟨g, 0, none⟩) k l.length) k ((runL l num den k).map (.int .i64)) ∧ RunBox w' B C num den (lsum (l.take (k + 1))) (runP l num den (k + 1)) ∧ Below C w w' ∧ C + 2 ≤ w'.heap.size ∧ (∀ j, j < k + 1 → runOk l num den (j + 1) = true) := by
  subst hw hs hp'
  refine ⟨?_, (hbox.store _ _).drewN q, below_drewN ((hb.setCell (by simp) _).setCell (by simp) _) q, by simpa [World.setCell] using hsz, fun j hj => ?_⟩
  · exact ownsRow_setCell_below (ownsRow_setCell_below hown (by simp) _) (by simp) _
  · rcases Nat.lt_succ_iff_lt_or_eq.1 hj with h | rfl
    · exact hok j h
    · exact hrk

/-- What the append at a round's end leaves. -/
theorem rstep2 {w wr w' : World} {num den : Int} {B C g : Nat} {s p : Int}
    (hbox : RunBox wr B C num den s p) (hb : Below C w wr) (hsz : C + 2 ≤ wr.heap.size) (hge : C + 2 ≤ g) (o : Obj) (hg : (wr.alloc o).grownBy w' (some g)) :
    RunBox w' B C num den s p ∧ Below C w w' ∧ C + 2 ≤ w'.heap.size := by
  have hlt := hbox.lt
  have hb' : ∀ k, k < C + 2 → w'.heap[k]? = wr.heap[k]? := fun k hk => by
    rw [hg.block k (by simp; omega) (by simp; omega), Below.heap_alloc _ _ _ (by omega)]
  refine ⟨⟨hlt, ?_, ?_, ?_, ?_⟩, (hb.alloc (by omega) o).grown hg (by simp; omega) (fun j hj => by cases hj; omega), Nat.le_trans hsz (Nat.le_trans (by simp) hg.size)⟩
  · rw [hb' _ (by omega)]; exact hbox.hn
  · rw [hb' _ (by omega)]; exact hbox.hd
  · rw [hb' _ (by omega)]; exact hbox.hs
  · rw [hb' _ (by omega)]; exact hbox.hl

set_option maxHeartbeats 1000000 in
theorem running_any (l : List Int) (num den : Int) (ao : Option Addr) (cap b o : Nat) (w : World) (H : Sl w 1 ao l.length cap b o (l.map (.int .i64))) (hlen : l.length ≤ 100000) :
    Calls Try.prog 19 #[.slice ao l.length cap, .int .i64 num, .int .i64 den] w fun e w' => OutL w (runS l num den).1 (runS l num den).2 e w' := by
  have hP := pok_zero num den
  cases hp : pok 0 num den
  · have h1 : (portionS 0 num den).2 = 1 := by rw [hP, hp]; rfl
    have HR := Lib.hid (runS_bad0 l num den hp)
    clear hP hp
    go_enter Try.func19, Try.ntmps19
    go_wp2_with (go_at_call 21; refine (mportion_any _ _ _ _).mono ?_; rintro e w' ⟨rfl, nd, rfl⟩)
    go_ret2
    rw [HR.out]
    exact OutL.nil ((((Keeps.refl w).alloc _).alloc _).drewN _)
  · have h0 : (portionS 0 num den).2 = 0 := by rw [hP, hp]; rfl
    have HP := Lib.hid hp
    clear hP hp
    have hcap := H.cap
    have hle := H.le
    go_enter Try.func19, Try.ntmps19
    go_wp2_with (go_at_call 21; refine (mportion_any _ _ _ _).mono ?_; rintro e w' ⟨rfl, nd, rfl⟩)
    have g1 : Keeps w (((w.alloc (.cells #[.int .i64 num] 3)).alloc (.cells #[.int .i64 den] 3)).drewN nd) := (((Keeps.refl w).alloc _).alloc _).drewN _
    have g2 : (((w.alloc (.cells #[.int .i64 num] 3)).alloc (.cells #[.int .i64 den] 3)).drewN nd).heap[w.heap.size]? = some (.cells #[.int .i64 num] 3 (0, 0)) := by
      show ((w.alloc _).alloc _).heap[_]? = _
      rw [Below.heap_alloc _ _ _ (by simp)]
      exact heap_alloc_new w _
    have g3 : (((w.alloc (.cells #[.int .i64 num] 3)).alloc (.cells #[.int .i64 den] 3)).drewN nd).heap[w.heap.size + 1]? = some (.cells #[.int .i64 den] 3 (0, 0)) := by
      have := heap_alloc_new (w.alloc (.cells #[.int .i64 num] 3)) (.cells #[.int .i64 den] 3)
      rw [World.size_alloc] at this
      exact this
    have g4 : (((w.alloc (.cells #[.int .i64 num] 3)).alloc (.cells #[.int .i64 den] 3)).drewN nd).heap.size = w.heap.size + 2 := by simp
    have HS := H.keeps g1
    generalize (((w.alloc (.cells #[.int .i64 num] 3)).alloc (.cells #[.int .i64 den] 3)).drewN nd) = W0 at g1 g2 g3 g4 HS ⊢
    have G4 := Lib.hid g4
    have G2 := Lib.hid g2
    have G3 := Lib.hid g3
    clear g2 g3 g4 H
    go_loop [30] (fun i => ∃ k : Nat, k ≤ l.length ∧ i = .int .i64 k ∧ Hid (∀ j (hj : j < l.length), j < k → amt l[j] = true)) (fun i => l.length - (intOf i).toNat)
    case atStart => exact ⟨0, Nat.zero_le _, rfl, fun j _ hj => absurd hj (Nat.not_lt_zero _)⟩
    case round =>
      obtain ⟨k, hk, rfl, HA⟩ := hrel
      by_cases hlt : k < l.length
      · have hix := HS.at1 Try.underlying22 Try.sizeOf3 k hlt
        have hcell := HS.int k hlt
        cases ha : amt l[k]
        · have HR := Lib.hid (runS_bad l num den k hlt ha)
          go_wp2_with (go_at_call 28; refine (mvalid_any _ _).mono ?_; rintro e w' ⟨rfl, rfl⟩)
          go_ret2
          rw [HR.out]
          exact OutL.nil g1
        · have HA2 : Hid (∀ j (hj : j < l.length), j < k + 1 → amt l[j] = true) := by
            intro j hj hjk
            rcases Nat.lt_succ_iff_lt_or_eq.1 hjk with h | rfl
            · exact HA.out j hj h
            · exact ha
          go_wp2_with (go_at_call 28; refine (mvalid_any _ _).mono ?_; rintro e w' ⟨rfl, rfl⟩)
          go_round
          case rel => exact ⟨k + 1, by omega, by go_num, HA2⟩
          case measure => simp [intOf]; omega
      · have hpre : runPre l num den = true := runPre_of l num den HP.out fun j hj => HA.out j hj (by omega)
        have HPRE := Lib.hid hpre
        have HAMT : Hid (∀ j (hj : j < l.length), amt l[j] = true) := fun j hj => HA.out j hj (by omega)
        clear hpre HA
        obtain ⟨i0, hi, hz0, hz1, hz2⟩ := info_parts infoInt
        go_wp2_with (at_make; refine wpList_make_own _ rfl _ _ 22 rfl (W0.heap.size + 2) 3 i0 (.int .i64 0) 1 Try.underlying22 hi hz0 hz1 _ _ _ l.length rfl rfl rfl ?b1 ?b2 ?b3 ?_)
        case b1 => omega
        case b2 => unfold maxLen; omega
        intro w1 hown1 hgrow1
        have hb1 : Below W0.heap.size W0 w1 := (((Below.refl _ _).alloc (Nat.le_refl _) _).alloc (by simp) _).grown hgrow1 (by simp; omega) (fun j hj => by cases hj)
        have hsz1 : W0.heap.size + 2 ≤ w1.heap.size := Nat.le_trans (by simp) hgrow1.size
        have hbox1 : RunBox w1 w.heap.size W0.heap.size num den 0 0 := by
          have e4 := G4.out
          refine ⟨by omega, ?_, ?_, ?_, ?_⟩
          · rw [hb1.block _ (by omega)]; exact G2.out
          · rw [hb1.block _ (by omega)]; exact G3.out
          · rw [hgrow1.block _ (by simp; omega) (by simp), Below.heap_alloc _ _ _ (by simp)]
            exact heap_alloc_new W0 _
          · rw [hgrow1.block _ (by simp) (by simp)]
            have := heap_alloc_new (W0.alloc (.cells #[.int .i64 0] 3)) (.cells #[.int .i64 0] 3)
            rw [World.size_alloc] at this
            exact this
        have HS1 := HS.keeps hb1
        have g5 : Keeps w W0 := g1
        have hrel0 : RRel W0 l num den w.heap.size W0.heap.size (W0.heap.size + 1 + 1) (.slice (some ⟨W0.heap.size + 1 + 1, 0, none⟩) 0 l.length) (.int .i64 0) w1 :=
          ⟨0, Nat.zero_le _, rfl, rfl, hown1, by rw [lsum_zero, runP_zero]; exact hbox1, hb1, hsz1, fun j hj => absurd hj (Nat.not_lt_zero _)⟩
        clear hgrow1 hown1 hbox1 HS1
        go_wp2_with fail
        go_loopw [15, 44] (RRel W0 l num den w.heap.size W0.heap.size (W0.heap.size + 1 + 1)) (fun _ i _ => l.length - (intOf i).toNat)
        case atStart => exact hrel0
        case round =>
          clear hrel0 hb1 hsz1 hk hlt
          obtain ⟨k, hk, rfl, rfl, hown, hbox, hb, hsz, hok⟩ := hrel
          by_cases hlt : k < l.length
          · have HSr := HS.keeps hb
            have hix := HSr.at1 Try.underlying22 Try.sizeOf3 k hlt
            have hcell := HSr.int k hlt
            have hsum := sum_amt l num den k hok
            have hx := amt_true.1 (HAMT.out k hlt)
            have hlp := runP_amt l num den k
            have HT := Lib.hid (lsum_take l k hlt)
            have HB := Lib.hid hbox
            have HC := Lib.hid (next_any l[k] num den (lsum (l.take k)) (runP l num den k) w.heap.size W0.heap.size wr hbox hsum hx hlp HP.out)
            cases hr : runOk l num den (k + 1)
            · have HR := Lib.hid (runS_stop l num den HPRE.out k hlt hr)
              have hno : ¬ (amt (lsum (l.take k) + l[k]) = true ∧ (portionS (lsum (l.take k) + l[k]) num den).2 = 0) := by
                rw [← HT.out]; rw [runOk, Bool.and_eq_false_iff, decide_eq_false_iff_not] at hr
                rintro ⟨h1, h2⟩
                rcases hr with hr | hr
                · rw [h1] at hr; cases hr
                · exact hr h2
              have HC2 : Hid (Calls Try.prog 29 #[.int .i64 l[k], .pointer (some ⟨W0.heap.size, 0, none⟩), .pointer (some ⟨w.heap.size, 0, none⟩), .pointer (some ⟨w.heap.size + 1, 0, none⟩), .pointer (some ⟨W0.heap.size + 1, 0, none⟩)] wr fun e w' => e = .returned (.tuple #[.int .i64 0, .int .i64 2]) ∧ Below W0.heap.size wr w') :=
                HC.out.mono fun e w' h => by rwa [NextPost, if_neg hno] at h
              clear hno hr HC hbox
              go_wp2_with (go_at_call 29; refine HC2.out.mono ?_; rintro e w2 ⟨rfl, hb2⟩)
              go_ret2
              rw [HR.out]
              exact OutL.nil (g1.trans (hb.trans hb2))
            · have hyes : amt (lsum (l.take k) + l[k]) = true ∧ (portionS (lsum (l.take k) + l[k]) num den).2 = 0 := by
                rw [← HT.out]; rwa [runOk, Bool.and_eq_true, decide_eq_true_eq] at hr
              have hpe : (portionS (lsum (l.take k) + l[k]) num den).1 = runP l num den (k + 1) := by rw [← HT.out]; rfl
              have HC2 : Hid (Calls Try.prog 29 #[.int .i64 l[k], .pointer (some ⟨W0.heap.size, 0, none⟩), .pointer (some ⟨w.heap.size, 0, none⟩), .pointer (some ⟨w.heap.size + 1, 0, none⟩), .pointer (some ⟨W0.heap.size + 1, 0, none⟩)] wr fun e w' => e = .returned (.tuple #[.int .i64 (runP l num den (k + 1) - runP l num den k), .int .i64 0]) ∧
                  (w'.ownsRow (W0.heap.size + 2) 3 1 (.slice (some ⟨W0.heap.size + 1 + 1, 0, none⟩) k l.length) k ((runL l num den k).map (.int .i64)) ∧ RunBox w' w.heap.size W0.heap.size num den (lsum (l.take (k + 1))) (runP l num den (k + 1)) ∧ Below W0.heap.size W0 w' ∧ W0.heap.size + 2 ≤ w'.heap.size ∧ (∀ j, j < k + 1 → runOk l num den (j + 1) = true))) :=
                HC.out.mono fun e w' h => by
                  rw [NextPost, if_pos hyes] at h
                  obtain ⟨h1, q, h2⟩ := h
                  rw [hpe] at h1
                  exact ⟨h1, rstep hown hbox hb hsz hok q HT.out.symm hpe hr h2⟩
              clear hyes hr HC hbox hown hok hb hsz HB hpe
              go_wp2_with (first | (go_at_call 29; refine HC2.out.mono ?_; rintro e w2 ⟨rfl, hown2, hbox2, hb2, hsz2, hok2⟩; have HBX := Lib.hid hbox2; have HOK := Lib.hid hok2; clear hbox2 hok2) | (at_builtin; refine wpList_append_fits _ rfl _ _ 22 rfl (W0.heap.size + 2) 3 i0 1 Try.underlying22 hi hz1 _ _ _ _ rfl (hown2.alloc _) ⟨w2.heap.size, 0, none⟩ 1 1 [.int .i64 (runP l num den (k + 1) - runP l num den k)] rfl rfl ?c1 ?c2 ?c3 ?_))
              case c1 =>
                intro j u hj
                match j, hj with
                | 0, hj => simp at hj; subst hj; simp [Addr.add]
              case c2 => intro u hu; simp at hu; subst hu; rfl
              case c3 => omega
              intro w3 hown3 hgrow3
              have R := rstep2 HBX.out hb2 hsz2 (by omega) _ hgrow3
              have R4 : w3.ownsRow (W0.heap.size + 2) 3 1 (.slice (some ⟨W0.heap.size + 1 + 1, 0, none⟩) (k + 1) l.length) (k + 1) ((runL l num den (k + 1)).map (.int .i64)) := by
                rw [runL_succ, List.map_append]; exact hown3
              clear hown3 hgrow3 hown2 hsz2
              go_wp2
              go_roundw
              case rel => exact ⟨k + 1, by omega, by go_num, rfl, R4, R.1, R.2.1, R.2.2, HOK.out⟩
              case measure => simp [intOf]; omega
          · obtain rfl : k = l.length := by omega
            have HR := Lib.hid (runS_all l num den HPRE.out hok)
            have HO : Hid (wr.ownsRow (W0.heap.size + 2) 3 1 (.slice (some ⟨W0.heap.size + 1 + 1, 0, none⟩) (runL l num den l.length).length l.length) (runL l num den l.length).length ((runL l num den l.length).map (.int .i64))) := by
              show World.ownsRow _ _ _ _ _ _ _
              rw [runL_length]; exact hown
            clear hok hown hbox
            go_wp2_with fail
            go_ret2
            rw [HR.out]
            have := OutL.own (er := 0) HO.out (g1.trans hb)
            rw [runL_length] at this
            exact this
end Go.Proofs.Ytppjjmjdiccloaa
