/- scope.Parts and the reference's: the walks. -/
import Derived.Test.YtkpdimbblcmnaaaScopeS
namespace Go.Proofs.Ytkpdimbblcmnaaa
open Go.RowKit
set_option linter.unusedSimpArgs false
set_option linter.unusedVariables false

theorem ivR_len {js : List Bool} {l : List Hol} {xs : List Int} {en : Int} (hx : IsDates l xs) (hl : l.length ≤ 900) : (ivR js l xs en).1.length ≤ 1000 := by
  unfold ivR
  split
  · simp
  · split
    · simp
    · split
      · simp
      · have h1 := ivsF_len (mAt js l en.toNat) (sdays xs)
        have h2 := hx.len_le
        have h3 := sdaysK_len' xs xs.length (Nat.le_refl _)
        rw [sdaysK_all] at h3
        show (ivsF _ _).length ≤ 1000
        omega
theorem partsI_len (l : List Ivl) (m a b : Int) : (partsI l m a b).length ≤ l.length := by
  unfold partsI
  rw [List.length_map]
  exact List.length_filter_le _ _
theorem part_1 {r : List Ivl × Int} {m a b : Int} (h : r.2 ≠ 0) : partR r m a b = ([], r.2) := by unfold partR; rw [if_neg h]
theorem part_0 (l : List Ivl) (m a b : Int) : partR (l, 0) m a b = (partsI l m a b, 0) := by unfold partR; rw [if_pos rfl]
set_option maxRecDepth 100000 in
set_option maxHeartbeats 4000000 in
theorem parts_any (js : List Bool) (l : List Hol) (xs : List Int) (hxs : IsDates l xs) (en mt fr tt : Int) (ao : Option Addr) (cap b o : Nat) (aol : Option Addr) (capl bl ol : Nat) (w : World) (HJ : Ents w ao js cap b o) (H : Hols w aol l capl bl ol) (hlen : l.length ≤ 900) (hok : ∀ x ∈ l, x.Ok) :
    Calls Try.prog 26 #[.agg #[.string ⟨#[]⟩, .int .i64 0, .int .i64 0, .int .i64 0, .slice none 0 0, .int .i64 0, .int .i64 0, .int .i64 0, .int .i64 0, .int .i64 0, .int .i64 0, .int .i64 0, .int .i64 0, .int .i64 0, .int .i64 0, .int .i64 0, .int .i64 0, .int .i64 0, .int .i64 0, .int .i64 0, .slice ao js.length cap], .slice aol l.length capl, .int .i64 en, .int .i64 mt, .int .i64 fr, .int .i64 tt] w (IvOut w (partR (ivR js l xs en) mt fr tt)) := by
  have hall := fun W (hk : Keeps w W) => ivals_any js l xs hxs en ao cap b o aol capl bl ol W (HJ.keeps hk) (H.keeps hk) hlen hok
  have hcap := Sl.cap HJ
  have hle := Sl.le HJ
  have hload := (RowB.new w 33 (grpC (.slice ao js.length cap))).range
  obtain ⟨⟨rl, re⟩, hr⟩ : ∃ r, ivR js l xs en = r := ⟨_, rfl⟩
  have hrlen : rl.length ≤ 1000 := by have := ivR_len (js := js) (en := en) hxs hlen; rw [hr] at this; exact this
  rw [hr] at hall ⊢
  have HI : Hid (∀ W, Keeps w W → Calls Try.prog 23 #[.agg #[.string ⟨#[]⟩, .int .i64 0, .int .i64 0, .int .i64 0, .slice none 0 0, .int .i64 0, .int .i64 0, .int .i64 0, .int .i64 0, .int .i64 0, .int .i64 0, .int .i64 0, .int .i64 0, .int .i64 0, .int .i64 0, .int .i64 0, .int .i64 0, .int .i64 0, .int .i64 0, .int .i64 0, .slice ao js.length cap], .slice aol l.length capl, .int .i64 en] W fun e w' => ∃ ao cap b o, e = .returned (.tuple #[.slice ao rl.length cap, .int .i64 re]) ∧ Ivls w' ao rl cap b o ∧ Keeps W w') := Lib.hid hall
  clear hall hr HJ H
  by_cases h0 : re = 0
  · subst h0
    rw [part_0]
    go_enter Try.func26, Try.ntmps26
    go_wp2_with (first | (refine wpList_load_mid rfl 33 _ rfl w.heap.size 0 rfl (grpC (.slice ao js.length cap)) _ hload Try.underlying33 rfl groupSize ?_) | (go_at_call 23; (refine (HI.out _ ((Keeps.refl w).alloc _)).mono ?_); rintro e w2 ⟨ao2, cap2, b2, o2, rfl, hs2, hk2⟩; have K2 := Lib.hid hk2; have HS2 := Lib.hid hs2; have hc2 := Sl.cap hs2; have hl2 := Sl.le hs2; clear hs2 hk2))
    go_loopw [16, 31] (fun vo vi wr => ∃ k : Nat, k ≤ rl.length ∧ vi = .int .i64 k ∧ Hid (Keeps w2 wr ∧ wr.ownsRow w2.heap.size 57 3 vo (partsI (rl.take k) mt fr tt).length ((partsI (rl.take k) mt fr tt).flatMap Ivl.cells))) (fun _ vi _ => rl.length - (intOf vi).toNat)
    case atStart => exact ⟨0, Nat.zero_le _, rfl, Lib.hid ⟨Keeps.refl _, World.ownsRow_nil _ _ _ _⟩⟩
    case round =>
      obtain ⟨k, hk, rfl, HX⟩ := hrel
      by_cases hlt : k < rl.length
      · have HSk := HS2.out.keeps HX.out.1
        have c0 := HSk.cell Ivl.len k hlt 0 _ rfl
        have c1 := HSk.cell Ivl.len k hlt 1 _ rfl
        have c2 := HSk.cell Ivl.len k hlt 2 _ rfl
        have hix := Sl.at HSk Try.underlying47 Try.sizeOf57 k hlt
        simp only [Nat.add_zero] at c0
        have hlb := World.block_lt_of_cell? _ _ c0
        have hpl := partsI_len (rl.take k) mt fr tt
        rw [List.length_take] at hpl
        have HT : Hid (partsI (rl.take (k + 1)) mt fr tt = if partB mt fr tt rl[k] = true then partsI (rl.take k) mt fr tt ++ [cutI rl[k] fr tt] else partsI (rl.take k) mt fr tt) := Lib.hid (by rw [take_snoc _ _ hlt, partsI_snoc])
        obtain ⟨z, hz⟩ : ∃ z, rl[k] = z := ⟨_, rfl⟩
        rw [hz] at c0 c1 c2 HT
        clear hz HSk
        by_cases h1 : z.mth = mt
        · have h1' : (z.mth == mt) = true := by simpa using h1
          by_cases h2 : max z.frm fr < min z.to tt
          · have h2' : decide (max z.frm fr < min z.to tt) = true := decide_eq_true h2
            have HNX : Hid (partsI (rl.take (k + 1)) mt fr tt = partsI (rl.take k) mt fr tt ++ [⟨max z.frm fr, min z.to tt, z.mth⟩]) := Lib.hid (by rw [HT.out, if_pos (by simp [partB, h1, h2])]; rfl)
            obtain ⟨va, hva⟩ : ∃ va, max z.frm fr = va := ⟨_, rfl⟩
            obtain ⟨vb, hvb⟩ : ∃ vb, min z.to tt = vb := ⟨_, rfl⟩
            rw [hva, hvb] at HNX h2'
            clear h1 h2 HT
            go_wp2_with (at_builtin; refine wpList_appx elemIvl rfl _ _ (by rfl) w2 _ _ _ (by rfl) w2.heap.size (HX.out.2.alloc _) (HX.out.1.alloc _) (by have := HX.out.1.size; simp; omega) (Ivl.cells ⟨va, vb, z.mth⟩) _ 1 (by rfl) (by simp) (by rfl) (ivl_one _) (by omega) (by omega) ?_; intro v5 w5 hown5 hb5 hz5; have HX5 : Hid (Keeps w2 w5 ∧ w5.ownsRow w2.heap.size 57 3 v5 (partsI (rl.take (k + 1)) mt fr tt).length ((partsI (rl.take (k + 1)) mt fr tt).flatMap Ivl.cells)) := Lib.hid ⟨hb5, by rw [HNX.out, List.length_append, List.flatMap_append]; simpa [List.flatMap] using hown5⟩; clear hown5 hb5 hz5)
            go_roundw
            case rel => exact ⟨k + 1, by omega, by go_num, HX5⟩
            case measure => simp [intOf]; omega
          · have h2' : decide (max z.frm fr < min z.to tt) = false := decide_eq_false h2
            have HNX : Hid (partsI (rl.take (k + 1)) mt fr tt = partsI (rl.take k) mt fr tt) := Lib.hid (by rw [HT.out, if_neg (by simp [partB, h2])])
            obtain ⟨va, hva⟩ : ∃ va, max z.frm fr = va := ⟨_, rfl⟩
            obtain ⟨vb, hvb⟩ : ∃ vb, min z.to tt = vb := ⟨_, rfl⟩
            rw [hva, hvb] at h2'
            clear h1 h2 HT
            go_wp2_with fail
            go_roundw
            case rel => exact ⟨k + 1, by omega, by go_num, by rw [HNX.out]; exact Lib.hid ⟨HX.out.1.alloc _, HX.out.2.alloc _⟩⟩
            case measure => simp [intOf]; omega
        · have h1' : (z.mth == mt) = false := by simpa using h1
          have HNX : Hid (partsI (rl.take (k + 1)) mt fr tt = partsI (rl.take k) mt fr tt) := Lib.hid (by rw [HT.out, if_neg (by simp [partB, h1])])
          clear h1 HT
          go_wp2_with fail
          go_roundw
          case rel => exact ⟨k + 1, by omega, by go_num, by rw [HNX.out]; exact Lib.hid ⟨HX.out.1.alloc _, HX.out.2.alloc _⟩⟩
          case measure => simp [intOf]; omega
      · obtain rfl : k = rl.length := by omega
        rw [List.take_length] at HX
        obtain ⟨ao9, cap9, b9, rfl, hs9⟩ := Recs.own HX.out.2
        go_wp2_with fail
        go_ret2
        exact ⟨ao9, cap9, b9, 0, rfl, hs9, ((Keeps.refl w).alloc _).trans (K2.out.trans HX.out.1)⟩
  · have HQ := Lib.hid (part_1 (r := (rl, re)) (m := mt) (a := fr) (b := tt) h0)
    have e3 : (!(re == 0)) = true := by simpa using h0
    go_enter Try.func26, Try.ntmps26
    go_wp2_with (first | (refine wpList_load_mid rfl 33 _ rfl w.heap.size 0 rfl (grpC (.slice ao js.length cap)) _ hload Try.underlying33 rfl groupSize ?_) | (go_at_call 23; (refine (HI.out _ ((Keeps.refl w).alloc _)).mono ?_); rintro e w2 ⟨ao2, cap2, b2, o2, rfl, hs2, hk2⟩; have K2 := Lib.hid hk2; have HS2 := Lib.hid hs2; have hc2 := Sl.cap hs2; have hl2 := Sl.le hs2; clear hs2 hk2))
    go_ret2
    exact ⟨none, 0, 0, 0, by rw [HQ.out]; rfl, by rw [HQ.out]; exact Sl.nil _ _, ((Keeps.refl w).alloc _).trans K2.out⟩
end Go.Proofs.Ytkpdimbblcmnaaa
