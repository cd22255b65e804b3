/- partner.Pairs: the walk. -/
import Derived.Test.YtfddhmhagijodaaPrSort
import Derived.Test.YtfddhmhagijodaaBkOpen
namespace Go.Proofs.Ytfddhmhagijodaa
open Go.RowKit Go.Maps
set_option linter.unusedSimpArgs false
set_option linter.unusedVariables false

theorem VMap.own_size {P : Program} {k : TypeId} {α : Type} {K : KeyEnc P k α} {w : World} {b n : Nat} {f : α → Option Value} (h : VMap K w b n f) : ∃ D : DataW Value, w.ownsMap P k hold b n D ∧ Maps.size D ≤ n ∧ ∀ a, K.ok a → has D (K.lit a) = (f a).isSome := by
  obtain ⟨D, ho, h2⟩ := h
  have hsz : Maps.size D ≤ n := by
    obtain ⟨es0, clock, _, _, hs, rfl⟩ := ho
    show ((es0.toList.map _).foldr DataW.insert []).length ≤ n
    rw [length_sorted]
    simpa using hs
  exact ⟨D, ho, hsz, fun a ha => (h2 a ha).1⟩
theorem nodup_lenP : ∀ {l m : List Pr}, l.Nodup → (∀ x ∈ l, x ∈ m) → l.length ≤ m.length
  | [], m, _, _ => Nat.zero_le _
  | a :: l, m, h, s => by
    have h1 := List.nodup_cons.1 h
    have ha := s a (List.mem_cons_self ..)
    have h2 := nodup_lenP (m := m.erase a) h1.2 (fun x hx => (List.mem_erase_of_ne (fun e => h1.1 (by rw [← e]; exact hx))).2 (s x (List.mem_cons_of_mem _ hx)))
    rw [List.length_erase_of_mem ha] at h2
    have := List.length_pos_of_mem ha
    rw [List.length_cons]
    omega
theorem places_ok {date : Int} {l : List Jrn} (h : ∀ x ∈ l, x.Ok ∧ x.lines.length ≤ 8) : ∀ p ∈ places date l, p.Ok := fun p hp => by
  rw [places, mem_sortPl (plsAt_apart date l 0)] at hp
  exact plsAt_ok date l 0 h p hp
set_option maxRecDepth 100000 in
set_option maxHeartbeats 4000000 in
theorem pairs_any (bv : List Value) (es : List JV) (ms : List MV) (date : Int) (w : World) (H : Bks w bv es ms) (hn : es.length ≤ 42) (hm : ∀ e ∈ es, e.x.lines.length ≤ 8) :
    Calls Try.prog 24 #[.agg bv.toArray, .int .i64 date] w
      fun e w' => ∃ v l, e = .returned v ∧ PairsAre (places date (es.map JV.x)) l ∧ w'.ownsRow w.heap.size 66 2 v l.length (l.flatMap Pr.cells) ∧ Keeps w w' := by
  have hbl := H.len
  have HP := Lib.hid (fun W hW => by
    obtain ⟨ao, cap, b, o, he, hj⟩ := H.ents
    exact places_any bv hbl H.one es ao cap b o he date W (hj.keeps hW) hn hm)
  have hxs : ∀ x ∈ es.map JV.x, x.Ok ∧ x.lines.length ≤ 8 := fun x hx => by obtain ⟨e, he, rfl⟩ := List.mem_map.1 hx; exact ⟨H.ok e he, hm e he⟩
  have hlen := sortPl_len2 date (es.map JV.x) (fun x hx => (hxs x hx).2)
  rw [List.length_map] at hlen
  have HOK := Lib.hid (places_ok (date := date) hxs)
  obtain ⟨P, hP⟩ : ∃ P, places date (es.map JV.x) = P := ⟨_, rfl⟩
  rw [hP] at HP hlen HOK ⊢
  clear hP H hm hxs
  have hmm := @run_makeMap Try.prog
  have hrg : ((w.alloc (.cells bv.toArray 36)).alloc (.map #[] 0)).rangeAt w.heap.size 0 bv := range_keeps (box_range w bv 36) ((Keeps.refl _).alloc _)
  have hk0 : Keeps w ((w.alloc (.cells bv.toArray 36)).alloc (.map #[] 0)) := ((Keeps.refl w).alloc _).alloc _
  have hm0 : VMap prK ((w.alloc (.cells bv.toArray 36)).alloc (.map #[] 0)) (w.heap.size + 1) 0 (setP []) := by
    have := VMap.made prK (w.alloc (.cells bv.toArray 36))
    simp only [World.size_alloc] at this
    exact this
  go_enter Try.func24, Try.ntmps24
  go_wp2_with (first | (refine wpList_books rfl (.tmp 2) rfl w.heap.size bv hbl rfl hrg ?_; clear hrg) | (go_at_call 38; refine (HP.out _ hk0).mono ?_; rintro e w1 ⟨v1, rfl, ho1, hk1⟩; obtain ⟨ao1, cap1, b1, e1, hs1⟩ := Sl.own ho1; subst e1; have hbb := own_block ho1 hs1; have HS1 := Lib.hid hs1; have HM1 := Lib.hid (hm0.keeps hk1); have HK1 := Lib.hid (hk0.trans hk1); have hz1 := hk1.size; clear hk1 hk0 ho1 hm0))
  have hcap1 := HS1.out.cap
  have hle1 := HS1.out.le
  simp only [World.size_alloc] at hz1 hbb
  go_loopw [13] (fun vi wr => ∃ k : Nat, k ≤ P.length ∧ vi = .int .i64 k ∧ Hid (Keeps w wr ∧ Sl wr 8 ao1 P.length cap1 b1 0 (P.flatMap Plc.cells) ∧ VMap prK wr (w.heap.size + 1) k (setP (prsOf (P.take k))))) (fun vi _ => P.length - (intOf vi).toNat)
  case atStart => exact ⟨0, Nat.zero_le _, rfl, Lib.hid ⟨HK1.out, HS1.out, HM1.out⟩⟩
  case round =>
    obtain ⟨k, hk, rfl, HW⟩ := hrel
    by_cases hlt : k < P.length
    · have hr : Recs wr 8 Plc.cells ao1 P cap1 b1 0 := HW.out.2.1
      have hix := Sl.at hr Try.underlying72 Try.sizeOf75 k hlt
      obtain ⟨p, hpk⟩ : ∃ p, P[k] = p := ⟨_, rfl⟩
      have c0 := hr.cell Plc.len k hlt 0 (.int .i64 p.eid) (by rw [hpk]; rfl)
      have c1 := hr.cell Plc.len k hlt 1 (.int .i64 p.idx) (by rw [hpk]; rfl)
      have c2 := hr.cell Plc.len k hlt 2 (.int .i64 p.date) (by rw [hpk]; rfl)
      have c3 := hr.cell Plc.len k hlt 3 (.int .i64 p.at_) (by rw [hpk]; rfl)
      have c4 := hr.cell Plc.len k hlt 4 (.int .i64 p.ent) (by rw [hpk]; rfl)
      have c5 := hr.cell Plc.len k hlt 5 (.int .i64 p.acc) (by rw [hpk]; rfl)
      have c6 := hr.cell Plc.len k hlt 6 (.int .i64 p.amt) (by rw [hpk]; rfl)
      have c7 := hr.cell Plc.len k hlt 7 (.int .i64 p.ptn) (by rw [hpk]; rfl)
      simp only [Nat.add_zero, Nat.zero_add] at c0 c1 c2 c3 c4 c5 c6 c7 hix
      have hpo : p.Ok := by rw [← hpk]; exact HOK.out _ (List.getElem_mem ..)
      have HPO : Hid (Pr.Ok p.pr) := Lib.hid ⟨hpo.1, hpo.2.2.2.1⟩
      have HT : Hid (prsOf (P.take (k + 1)) = if p.ptn ≠ -1 then prsOf (P.take k) ++ [p.pr] else prsOf (P.take k)) := Lib.hid (by
        rw [take_snoc _ k hlt, hpk]
        unfold prsOf
        rw [List.filter_append, List.filter_cons]
        by_cases h : p.ptn ≠ -1
        · rw [if_pos h, decide_eq_true h, List.map_append]; rfl
        · rw [if_neg h, decide_eq_false h]; simp)
      clear hpk hr hpo
      by_cases hp1 : p.ptn = -1
      · have e1 : (p.ptn != -1) = false := by simp [hp1]
        rw [if_neg (fun h => h hp1)] at HT
        clear hp1
        go_wp2_with fail
        go_roundw
        case rel => exact ⟨k + 1, by omega, by go_num, Lib.hid ⟨HW.out.1.alloc _, HW.out.2.1.keeps ((Keeps.refl _).alloc _), by rw [HT.out]; exact (HW.out.2.2.alloc _).mono (by omega)⟩⟩
        case measure => simp [intOf]; omega
      · have e1 : (p.ptn != -1) = true := by simp [hp1]
        rw [if_pos hp1] at HT
        clear hp1
        go_wp2_with ((refine wpList_vstore (K := prK) rfl _ _ _ 92 rfl Try.underlying92 (w.heap.size + 1) k rfl (HW.out.2.2.alloc _) (by unfold maxLen; omega) p.pr HPO.out rfl (.bool true) rfl (setP (prsOf (P.take (k + 1)))) (by rw [HT.out]; exact (setP_snoc _ _).1) (fun d _ hd => by rw [HT.out]; exact (setP_snoc _ _).2 d hd) ?_); intro w4 hm4 hg4; have HX : Hid (Keeps w w4 ∧ Sl w4 8 ao1 P.length cap1 b1 0 (P.flatMap Plc.cells) ∧ VMap prK w4 (w.heap.size + 1) (k + 1) (setP (prsOf (P.take (k + 1))))) := Lib.hid ⟨Below.grown (HW.out.1.alloc _) hg4 (HW.out.1.alloc _).size (fun j hj => by cases hj; omega), (HW.out.2.1.keeps ((Keeps.refl _).alloc _)).grownS hg4 (fun h0 => by have := hbb h0; omega), hm4⟩; clear hm4 hg4)
        go_roundw
        case rel => exact ⟨k + 1, by omega, by go_num, HX⟩
        case measure => simp [intOf]; omega
    · obtain rfl : k = P.length := by omega
      obtain ⟨wo, rfl⟩ : ∃ wo : World, wo = wr := ⟨_, rfl⟩
      have hm1 := HW.out.2.2
      rw [List.take_length] at hm1
      obtain ⟨D, hown, hsz, hhas⟩ := (hm1.alloc (.cells #[.map (some (w.heap.size + 1))] 92)).own_size
      have hmb : ∀ x : Pr, x.Ok → (Maps.has D (prLit x) = true ↔ x ∈ prsOf P) := fun x hx => by
        have := hhas x hx
        rw [show Maps.has D (prLit x) = _ from this]
        exact setP_some _ _
      have hokp : ∀ x ∈ prsOf P, x.Ok := fun x hx => by
        obtain ⟨p, hp, _, rfl⟩ := mem_prsOf.1 hx
        have := HOK.out p hp
        exact ⟨this.1, this.2.2.2.1⟩
      have hpl : (prsOf P).length ≤ P.length := by unfold prsOf; rw [List.length_map]; exact List.length_filter_le _ _
      have HSF := Lib.hid (sortedFuncP_any wo.heap.size (w.heap.size + 1) P.length D (wo.alloc (.cells #[.map (some (w.heap.size + 1))] 92)) (by go_simp) hown (by omega) (fun ss hss => by
        have := nodup_lenP hss.1 (fun x hx => (hmb x (hss.2.1 x hx)).1 ((hss.2.2 x (hss.2.1 x hx)).1 hx))
        omega))
      have HKW := Lib.hid HW.out.1
      have HMB := Lib.hid hmb
      have HOP := Lib.hid hokp
      clear hm1 HW HM1 HK1 HS1 hown hsz hhas hmb hokp hpl
      go_wp2_with (first | (go_at_call 40; refine (keysP_any _ _).mono ?_; rintro e w2 ⟨rfl, rfl⟩) | (go_at_call 39; refine HSF.out.mono ?_; rintro e w3 ⟨v3, ts, rfl, ha, hmem, hr, hk3⟩))
      go_ret
      have hsz := HKW.out.size
      refine ⟨_, ts, rfl, ⟨ha, fun x => ?_⟩, own_baseP hr (by simp; omega), (HKW.out.alloc _).trans hk3⟩
      rw [hmem x]
      exact ⟨fun h => (HMB.out x h.1).1 h.2, fun h => ⟨HOP.out x h, (HMB.out x (HOP.out x h)).2 h⟩⟩
end Go.Proofs.Ytfddhmhagijodaa
