/- Walks and plain facts that the claim rests on (LawICf). No condition. -/
import Derived.Test.YtoaidbhiciaeaaaGreatCf33
import Derived.Test.YtoaidbhiciaeaaaGreatCf34
import Derived.Test.YtoaidbhiciaeaaaGreatCf32
section
namespace Go.Proofs.YtoaidbhiciaeaaaGreat
open Go.RowKit
set_option linter.unusedSimpArgs false
set_option linter.unusedVariables false
theorem PsV.shape {w : World} {l : List Pst} {v : Value} (h : PsV w l v) : ∃ ao cap, v = .slice ao l.length cap ∧ l.length ≤ cap ∧ cap ≤ 9223372036854775807 := by
  obtain ⟨ls, ao, cap, b, rfl, h1, _, h3⟩ := h
  have : ls.length = l.length := by rw [← h3, List.length_map]
  exact ⟨ao, cap, by rw [this], by rw [← this]; exact Sl.le h1, Sl.cap h1⟩
theorem elemMt : ElemOf Tryz.prog 33 48 (.agg #[.int .i64 0, .slice none 0 0, .slice none 0 0, .int .i64 0]) 4 64 := ⟨Tryz.underlying33, by kernel_rfl, rfl, by omega⟩
theorem MV.one (m : MV) : ∀ v ∈ m.cells, v.oneCell' = true := by
  intro v hv
  simp only [MV.cells, List.mem_cons, List.not_mem_nil, or_false] at hv
  rcases hv with rfl | rfl | rfl | rfl <;> rfl
theorem set_get {bv : List Value} {v : Value} {j k : Nat} {u : Value} (h : bv[j]? = some u) (hne : j ≠ k) : (bv.set k v)[j]? = some u := by
  rw [List.getElem?_set_ne (fun e => hne e.symm)]; exact h
theorem set_at {bv : List Value} {v : Value} {k : Nat} (h : k < bv.length) : (bv.set k v)[k]? = some v := by
  rw [List.getElem?_set_self h]
theorem BkG.setM {w : World} {bv : List Value} {g : Grp} {es : List JV} {hs : List Hol} {ms l : List MV} {ao : Option Addr} {cap b o : Nat} (H : BkG w bv g es hs ms) (hsub : ∀ m ∈ l, m ∈ ms) (hr : Recs w 4 MV.cells ao l cap b o) : BkG w (bv.set 24 (.slice ao l.length cap)) g es hs l := by
  obtain ⟨aoM, capM, bM, oM, _, hM⟩ := H.bks.mts
  obtain ⟨ao1, cap1, b1, o1, he, hj⟩ := H.bks.ents
  obtain ⟨aoC, capC, bC, oC, aoE, capE, bE, oE, hgc, hC, hE⟩ := H.grp
  obtain ⟨aoH, capH, bH, oH, hb23, hH⟩ := H.hol
  have hl := H.bks.len
  refine ⟨⟨by rw [List.length_set]; exact hl, fun v hv => ?_, ⟨ao1, cap1, b1, o1, set_get he (by omega), hj⟩, ⟨ao, cap, b, o, set_at (by omega), hr, fun m hm => hM.left m (hsub m hm), fun m hm => hM.right m (hsub m hm)⟩, H.bks.ok, fun m hm => H.bks.mok m (hsub m hm)⟩, ⟨aoC, capC, bC, oC, aoE, capE, bE, oE, fun j v hv => set_get (hgc j v hv) (by have := (List.getElem?_eq_some_iff.1 hv).1; have h21 : (g.cells (.slice aoC g.chart.length capC) (.slice aoE g.ents.length capE)).length = 21 := rfl; omega), hC, hE⟩, ⟨aoH, capH, bH, oH, set_get hb23 (by omega), hH⟩⟩
  rcases List.mem_or_eq_of_mem_set hv with h | h
  · exact H.bks.one v h
  · rw [h]; rfl
theorem SmallB.sub {g : Grp} {es : List JV} {hs : List Hol} {ms l : List MV} {items : List Itm} (h : SmallB g es hs ms items) (hs2 : l.Sublist ms) : SmallB g es hs l items :=
  ⟨h.gok, h.lines, h.hlen, h.hok, fun m hm => h.sides m (hs2.subset hm), fun m hm => h.ids m (hs2.subset hm), Nat.le_trans hs2.length_le h.mlen, h.ilen, h.iref⟩
theorem conf_snoc (ms : List MV) (m : MV) : confM (ms ++ [m]) = if m.x.state = 4 then confM ms ++ [m] else confM ms := by
  unfold confM
  rw [List.filter_append]
  by_cases h : m.x.state = 4
  · rw [if_pos h]; simp [h]
  · rw [if_neg h]; simp [h]
structure CfR (w6 wN wr : World) (b9 b10 : Nat) (bv : List Value) (ms : List MV) (k : Nat) : Prop where
  kp : Keeps w6 wr
  r10 : RowB wr b10 36 (bv.set 24 (.slice none 0 0))
  box : ∃ a c, RowB wr b9 36 (bv.set 24 (.slice a (confM (ms.take k)).length c)) ∧ wr.ownsRow wN.heap.size 48 4 (.slice a (confM (ms.take k)).length c) (confM (ms.take k)).length ((confM (ms.take k)).flatMap MV.cells)
  sz : wN.heap.size ≤ wr.heap.size
theorem cf_skip {w6 wN wr wn : World} {b9 b10 : Nat} {bv : List Value} {ms : List MV} {k : Nat} (H : CfR w6 wN wr b9 b10 bv ms k) (hk : k < ms.length) {m : MV} (hm : ms[k] = m) (hs : m.x.state ≠ 4) (hn : Keeps wr wn) : CfR w6 wN wn b9 b10 bv ms (k + 1) := by
  have e : confM (ms.take (k + 1)) = confM (ms.take k) := by rw [take_snoc _ k hk, hm, conf_snoc, if_neg hs]
  obtain ⟨a, c, h1, h2⟩ := H.box
  exact ⟨H.kp.trans hn, H.r10.keeps hn, ⟨a, c, by rw [e]; exact h1.keeps hn, by rw [e]; exact own_keepsH h2 hn⟩, Nat.le_trans H.sz hn.size⟩
theorem cf_step {w6 wN wr wd w9 : World} {b9 b10 : Nat} {bv : List Value} {ms : List MV} {k n : Nat} {m : MV} {a9 a10 : Option Addr} {c9 c10 : Nat} {o : Obj} (H : CfR w6 wN wr b9 b10 bv ms k) (hd : Keeps wr wd) (hk : k < ms.length) (hm : ms[k] = m) (hs : m.x.state = 4) (hn : (confM (ms.take k)).length = n)
    (hown9 : wd.ownsRow wN.heap.size 48 4 (.slice a9 n c9) n ((confM (ms.take k)).flatMap MV.cells)) (hown' : w9.ownsRow wN.heap.size 48 4 (.slice a10 (n + 1) c10) (n + 1) ((confM (ms.take k)).flatMap MV.cells ++ m.cells))
    (hg : (wd.alloc o).grownBy w9 (Value.slice a9 n c9).ownBlock) (h9 : RowB w9 b9 36 (bv.set 24 (.slice a9 n c9))) (h6 : w6.heap.size ≤ b9) (hb9 : b9 < wN.heap.size) (hb10 : b10 < wN.heap.size) (hne : b9 ≠ b10) :
    CfR w6 wN (w9.setCell ⟨b9, 24, none⟩ (.slice a10 (n + 1) c10)) b9 b10 bv ms (k + 1) := by
  have e : confM (ms.take (k + 1)) = confM (ms.take k) ++ [m] := by rw [take_snoc _ k hk, hm, conf_snoc, if_pos hs]
  have el : (confM (ms.take (k + 1))).length = n + 1 := by rw [e, List.length_append, hn]; rfl
  have hkd : Keeps w6 (wd.alloc o) := (H.kp.trans hd).alloc o
  refine ⟨?_, ?_, ⟨a10, c10, ?_, ?_⟩, ?_⟩
  · exact Keeps.setCell (Below.grown hkd hg hkd.size (fun j hj => by have h1 := (hown9.lt j hj).1; have h2 := H.kp.size; omega)) (p := ⟨b9, 24, none⟩) h6 _
  · exact (((H.r10.keeps hd).alloc o).kept hg (fun e => by have := (hown9.lt b10 e.symm).1; omega)).kept (grown_set _ _ _ _) (fun e => hne (by have := Option.some.inj e; omega))
  · rw [el]
    have := h9.set 24 (.slice a10 (n + 1) c10)
    rw [List.set_set] at this
    exact this
  · rw [el, e, List.flatMap_append, List.flatMap_singleton]
    exact ownsRow_setCell_below hown' hb9 _
  · rw [World.size_setCell]
    exact Nat.le_trans H.sz (Nat.le_trans (hd.alloc o).size hg.size)
set_option maxRecDepth 100000 in
set_option maxHeartbeats 8000000 in
theorem lawCf_any (bv : List Value) (g : Grp) (es : List JV) (hs : List Hol) (ms : List MV) (items : List Itm) (p : Int) (ao : Option Addr) (cap b o : Nat) (w : World) (H : BkG w bv g es hs ms) (ho : g.OkG) (hh : ∀ x ∈ hs, x.Ok) (hid : ∀ m ∈ ms, I64 m.x.id) (HI : Recs w 7 Itm.cells ao items cap b o) (hi : ∀ x ∈ items, x.OkI) (hsz : ∀ m ∈ ms, m.x.left.length + m.x.right.length ≤ 9223372036854775807) :
    Calls Tryz.prog 4 #[.agg bv.toArray, .slice ao items.length cap, .int .i64 p] w fun e w' => e = .returned (.bool true) ∧ Keeps w w' := by
  obtain ⟨q, hq⟩ : ∃ q, fewL g es hs ms items = q := ⟨_, rfl⟩
  have HBL := Lib.hid H.bks.len
  have hrg := box_range w bv 36
  have hk0 : Keeps w (w.alloc (.cells bv.toArray 36)) := (Keeps.refl w).alloc _
  obtain ⟨W1, hW1⟩ : ∃ W1, w.alloc (.cells bv.toArray 36) = W1 := ⟨_, rfl⟩
  rw [hW1] at hrg hk0
  have HK0 := Lib.hid hk0
  have HRG : Hid (∀ W, Keeps W1 W → W.rangeAt w.heap.size 0 bv) := Lib.hid (fun W hk => range_keeps hrg hk)
  have HF : Hid (∀ W, Keeps W1 W → Calls Tryz.prog 10 #[.agg bv.toArray, .slice ao items.length cap] W fun e w' => e = .returned (.bool q) ∧ Keeps W w') := Lib.hid (fun W hk => by
    have := lfew_any bv g es hs ms items ao cap b o W (H.keeps (hk0.trans hk)) (HI.keeps (hk0.trans hk))
    rw [hq] at this
    exact this)
  cases q with
  | false =>
    clear H HI hrg hk0 hq
    go_enter Tryz.func4, Tryz.ntmps4
    go_upto_region 1 with fail
    try rw [hW1]
    clear hW1
    go_wp2_with (first | (go_at_call 9; guard_hyp K2 : _; (refine (awake_any _).mono ?_); rintro e3 w3 ⟨rfl, hk3⟩; have K3 := Lib.hid (K2.out.trans hk3); clear hk3) | (go_at_call 9; (refine (awake_any _).mono ?_); rintro e1 w1 ⟨rfl, hk1⟩; have K1 := Lib.hid hk1; clear hk1) | (refine wpList_rowG 36 _ rfl rfl w.heap.size bv _ rfl (HRG.out _ K1.out) Tryz.underlying36 rfl (by rw [HBL.out]; exact booksSize) ?_) | (go_at_call 10; (refine (HF.out _ K1.out).mono ?_); rintro e2 w2 ⟨rfl, hk2⟩; have K2 := Lib.hid (K1.out.trans hk2); clear hk2))
    go_ret
    exact ⟨rfl, HK0.out.trans K3.out⟩
  | true =>
    obtain ⟨SM, hA, hes, hml, hss⟩ := fewL_ok hq H ho hh hid hi hsz
    obtain ⟨er, her⟩ : ∃ er, (postsF g es hs ms items p).2 = er := ⟨_, rfl⟩
    obtain ⟨l1, hl1⟩ : ∃ l, (postsF g es hs ms items p).1 = l := ⟨_, rfl⟩
    have HP1 : Hid (∀ W, Keeps W1 W → Calls Tryz.prog 11 #[.agg bv.toArray, .slice ao items.length cap, .int .i64 p] W fun e w' => ∃ v, e = .returned (.tuple #[v, .int .i64 er]) ∧ PsV w' l1 v ∧ Keeps W w') := Lib.hid (fun W hk => by
      have := postings_any bv g es hs ms items p ao cap b o W (H.keeps (hk0.trans hk)) (HI.keeps (hk0.trans hk)) SM hA
      rw [her, hl1] at this
      exact this)
    by_cases h0 : er = 0
    · subst h0
      have hpg := posts_good her
      have hlp : l1.length ≤ (confM ms).length := by rw [← hl1]; exact posts_len
      have hpc : postsF g es hs (confM ms) items p = (l1, 0) := by rw [posts_conf hpg.1, ← hl1, ← her]
      have hpn : postsF g es hs [] items p = ([], 0) := posts_none hpg.1
      obtain ⟨aoM, capM, bM, oM, hb24, hM⟩ := H.bks.mts
      have hcapM := Sl.cap hM.row
      have hleM := Sl.le hM.row
      have HM := Lib.hid hM
      have HPC : Hid (∀ a c bb W, Keeps W1 W → Recs W 4 MV.cells a (confM ms) c bb 0 → Calls Tryz.prog 11 #[.agg (bv.set 24 (.slice a (confM ms).length c)).toArray, .slice ao items.length cap, .int .i64 p] W fun e w' => ∃ v, e = .returned (.tuple #[v, .int .i64 0]) ∧ PsV w' l1 v ∧ Keeps W w') := Lib.hid (fun a c bb W hk hr => by
        have := postings_any _ g es hs (confM ms) items p ao cap b o W ((H.keeps (hk0.trans hk)).setM (fun m hm => List.filter_sublist.subset hm) hr) (HI.keeps (hk0.trans hk)) (SM.sub List.filter_sublist) hA
        rw [hpc] at this
        exact this)
      have HPN : Hid (∀ W, Keeps W1 W → Calls Tryz.prog 11 #[.agg (bv.set 24 (.slice none 0 0)).toArray, .slice ao items.length cap, .int .i64 p] W fun e w' => ∃ v, e = .returned (.tuple #[v, .int .i64 0]) ∧ PsV w' [] v ∧ Keeps W w') := Lib.hid (fun W hk => by
        have := postings_any _ g es hs [] items p ao cap b o W ((H.keeps (hk0.trans hk)).setM (l := []) (fun m hm => absurd hm List.not_mem_nil) (Sl.nil _ _)) (HI.keeps (hk0.trans hk)) (SM.sub (List.nil_sublist _)) hA
        rw [hpn] at this
        exact this)
      have HON := Lib.hid H.bks.one
      have H24 := Lib.hid hb24
      clear H HI hrg hk0 hq SM hA her hl1 hpg hpc hpn hM hb24
      go_enter Tryz.func4, Tryz.ntmps4
      go_upto_region 1 with fail
      try rw [hW1]
      clear hW1
      go_upto_region 6 with (first | (go_at_call 9; (refine (awake_any _).mono ?_); rintro e1 w1 ⟨rfl, hk1⟩; have K1 := Lib.hid hk1; clear hk1) | (refine wpList_rowG 36 _ rfl rfl w.heap.size bv _ rfl (HRG.out _ K1.out) Tryz.underlying36 rfl (by rw [HBL.out]; exact booksSize) ?_) | (go_at_call 10; (refine (HF.out _ K1.out).mono ?_); rintro e2 w2 ⟨rfl, hk2⟩; have K2 := Lib.hid (K1.out.trans hk2); clear hk2) | (refine wpList_rowG 36 _ rfl rfl w.heap.size bv _ rfl (HRG.out _ K2.out) Tryz.underlying36 rfl (by rw [HBL.out]; exact booksSize) ?_) | (go_at_call 11; (refine (HP1.out _ K2.out).mono ?_); rintro e3 w3 ⟨v3, rfl, hp3, hk3⟩; have HP3 := Lib.hid hp3; have K3 := Lib.hid (K2.out.trans hk3); obtain ⟨ax, cx, rfl, hlx, hcx⟩ := hp3.shape; clear hp3 hk3))
      refine wp_region_inv (A := ?_) [some 38, some 39, some 9, some 10, none, none] (by kernel_rfl) (by kernel_rfl) (by kernel_rfl) (by kernel_rfl) ?_ (Cp2 w3 36 bv) ?_ ?_ ?_
      rotate_left
      · intro f; simp only [putL, Act.put, List.setIfInBounds_toArray, List.set_cons_zero, List.set_cons_succ, Nat.zero_add, Nat.reduceAdd]; exact rfl
      · exact fun f => Cp2.start
      · intro listed f w' i o hs hI ho hl haft
        have hi : i < 6 := (Array.getElem?_eq_some_iff.1 ho).1
        match i, hi with
        | 0, _ =>
          obtain rfl := Option.some.inj ho
          rw [if_pos (by rfl)]
          exact wp_load_mid 36 (.tmp 3) rfl w.heap.size 0 rfl bv _ (HRG.out _ (K3.out.trans hI.kp)) Tryz.underlying36 rfl (by rw [HBL.out]; exact booksSize) ⟨_, rfl, hI.load0⟩
        | 1, _ =>
          obtain rfl := Option.some.inj ho
          rw [if_pos (by rfl)]
          exact wp_load_mid 36 (.tmp 3) rfl w.heap.size 0 rfl bv _ (HRG.out _ (K3.out.trans hI.kp)) Tryz.underlying36 rfl (by rw [HBL.out]; exact booksSize) ⟨_, rfl, hI.load1⟩
        | 2, _ =>
          obtain rfl := Option.some.inj ho
          rw [if_pos (by rfl)]
          have h4 : listed.getD 4 false = false := by
            cases h : listed.getD 4 false with
            | false => rfl
            | true => exact absurd (hI.c4 h) (by rw [hl]; simp)
          go_simp
          exact hI.alloc2 (cs := zB) (by rw [HBL.out]; rfl) h4
        | 3, _ =>
          obtain rfl := Option.some.inj ho
          rw [if_pos (by rfl)]
          have h5 : listed.getD 5 false = false := by
            cases h : listed.getD 5 false with
            | false => rfl
            | true => exact absurd (hI.c5 h) (by rw [hl]; simp)
          go_simp
          exact hI.alloc3 (cs := zB) (by rw [HBL.out]; rfl) h5
        | 4, _ =>
          obtain rfl := Option.some.inj ho
          rw [if_pos (by rfl)]
          obtain ⟨bb, e, hth, hc⟩ := hI.store4 (v := undef) (haft ⟨2, .data⟩ (by simp) rfl)
          exact wp_store_mid 36 (.tmp 9) (.tmp 38) rfl bb 0 bv.toArray e (hI.l0 (haft ⟨0, .data⟩ (by simp) rfl)) hth (by rw [List.size_toArray, HBL.out]; exact booksSize) (all_oneCell_toArray HON.out) ⟨undef, rfl, hc⟩
        | 5, _ =>
          obtain rfl := Option.some.inj ho
          rw [if_pos (by rfl)]
          obtain ⟨bb, e, hth, hc⟩ := hI.store5 (v := undef) (haft ⟨3, .data⟩ (by simp) rfl)
          exact wp_store_mid 36 (.tmp 10) (.tmp 39) rfl bb 0 bv.toArray e (hI.l1 (haft ⟨1, .data⟩ (by simp) rfl)) hth (by rw [List.size_toArray, HBL.out]; exact booksSize) (all_oneCell_toArray HON.out) ⟨undef, rfl, hc⟩
      · intro listed f wz hall hI
        obtain ⟨b9, cs9, e9, hb9, hr9, _, h9⟩ := hI.b2 (hall 2 (by decide))
        obtain ⟨b10, cs10, e10, hb10, hr10, _, h10⟩ := hI.b3 (hall 3 (by decide))
        rw [h9 (hall 4 (by decide))] at hr9
        rw [h10 (hall 5 (by decide))] at hr10
        have hne : b9 ≠ b10 := fun e => hI.ne (hall 2 (by decide)) (hall 3 (by decide)) (by rw [e9, e10, e])
        have KZ := Lib.hid hI.kp
        simp only [e9, e10]
        have x9 := RowB.cell hr9 24 _ H24.out
        have y9 := RowB.frozen hr9 24
        have x10 := RowB.cell hr10 24 _ H24.out
        have y10 := RowB.frozen hr10 24
        have HR9 := Lib.hid hr9
        have HR10 := Lib.hid hr10
        have HB9 := Lib.hid hb9
        have HB10 := Lib.hid hb10
        have c24 : wz.cell? ⟨w.heap.size, 24, none⟩ = some (.slice aoM ms.length capM) := by
          have := (HRG.out wz (K3.out.trans KZ.out)) 24 _ H24.out
          rwa [Nat.zero_add] at this
        have hnw9 : w.heap.size ≠ b9 := by have := (World.block_lt_of_cell? _ _ (show w3.cell? ⟨w.heap.size, 24, none⟩ = some (.slice aoM ms.length capM) from by have := (HRG.out w3 K3.out) 24 _ H24.out; rwa [Nat.zero_add] at this)); simp only at this; omega
        have hnw10 : w.heap.size ≠ b10 := by have := (World.block_lt_of_cell? _ _ (show w3.cell? ⟨w.heap.size, 24, none⟩ = some (.slice aoM ms.length capM) from by have := (HRG.out w3 K3.out) 24 _ H24.out; rwa [Nat.zero_add] at this)); simp only at this; omega
        clear hI hr9 hr10 hb9 hb10 h9 h10 hall
        go_wp2_with fail
        have rN9 : RowB ((wz.setCell ⟨b9, 24, none⟩ (.slice none 0 0)).setCell ⟨b10, 24, none⟩ (.slice none 0 0)) b9 36 (bv.set 24 (.slice none 0 0)) := (HR9.out.set 24 _).other (p := ⟨b10, 24, none⟩) (fun e => hne e.symm) _
        have rN10 : RowB ((wz.setCell ⟨b9, 24, none⟩ (.slice none 0 0)).setCell ⟨b10, 24, none⟩ (.slice none 0 0)) b10 36 (bv.set 24 (.slice none 0 0)) := (HR10.out.other (p := ⟨b9, 24, none⟩) hne _).set 24 _
        have kN : Keeps w3 ((wz.setCell ⟨b9, 24, none⟩ (.slice none 0 0)).setCell ⟨b10, 24, none⟩ (.slice none 0 0)) := (KZ.out.setCell (p := ⟨b9, 24, none⟩) HB9.out _).setCell (p := ⟨b10, 24, none⟩) HB10.out _
        obtain ⟨wN, hwN⟩ : ∃ wN, (wz.setCell ⟨b9, 24, none⟩ (.slice none 0 0)).setCell ⟨b10, 24, none⟩ (.slice none 0 0) = wN := ⟨_, rfl⟩
        rw [hwN] at rN9 rN10 kN ⊢
        clear hwN x9 y9 x10 y10 c24
        have hl9 := rN9.lt
        have hl10 := rN10.lt
        have RN9 := Lib.hid rN9
        have RN10 := Lib.hid rN10
        have KN := Lib.hid kN
        have HNE := Lib.hid hne
        clear rN9 rN10 kN hne hnw9 hnw10
        go_loopw [45] (fun vi wr => ∃ k : Nat, k ≤ ms.length ∧ vi = .int .i64 k ∧ Hid (CfR w3 wN wr b9 b10 bv ms k)) (fun vi _ => ms.length - (intOf vi).toNat)
        case atStart => exact ⟨0, Nat.zero_le _, rfl, Lib.hid ⟨KN.out, RN10.out, ⟨none, 0, by rw [List.take_zero]; exact RN9.out, by rw [List.take_zero]; exact World.ownsRow_nil _ _ _ _⟩, Nat.le_refl _⟩⟩
        case round =>
          obtain ⟨k, hk, rfl, HW⟩ := hrel
          have KW := Lib.hid (K3.out.trans HW.out.kp)
          by_cases hlt : k < ms.length
          · have hr := HM.out.row.keeps (HK0.out.trans KW.out)
            have hix := Sl.at hr Tryz.underlying33 Tryz.sizeOf48 k hlt
            obtain ⟨m, hmk⟩ : ∃ m, ms[k] = m := ⟨_, rfl⟩
            have c0 := hr.cell MV.len k hlt 0 (.int .i64 m.x.id) (by rw [hmk]; rfl)
            have c1 := hr.cell MV.len k hlt 1 (.slice m.al m.x.left.length m.cl) (by rw [hmk]; rfl)
            have c2 := hr.cell MV.len k hlt 2 (.slice m.ar m.x.right.length m.cr) (by rw [hmk]; rfl)
            have c3 := hr.cell MV.len k hlt 3 (.int .i64 m.x.state) (by rw [hmk]; rfl)
            rw [Nat.add_zero] at c0
            have HMK := Lib.hid hmk
            clear hr hmk
            by_cases h4 : m.x.state = 4
            · have e4 : (m.x.state == 4) = true := by simpa using h4
              have HS4 := Lib.hid h4
              clear h4
              obtain ⟨a9, c9, hr9, ho9⟩ := HW.out.box
              have hnl : (confM (ms.take k)).length ≤ k := by
                unfold confM
                refine Nat.le_trans (List.length_filter_le _ _) ?_
                rw [List.length_take]; omega
              obtain ⟨n, hnn⟩ : ∃ n, (confM (ms.take k)).length = n := ⟨_, rfl⟩
              rw [hnn] at hr9 ho9 hnl
              have HNN := Lib.hid hnn
              have HR9 := Lib.hid hr9
              have HO9 := Lib.hid ho9
              have z24 := RowB.cell hr9 24 _ (set_at (by rw [HBL.out]; omega))
              have hzx := World.block_lt_of_cell? _ _ z24
              simp only at hzx
              have hzx1 : b9 < wr.heap.size + 1 := by omega
              have hsz9 := HW.out.sz
              clear hnn hr9 ho9
              go_wp2_with (at_builtin; (refine wpList_app_rawR elemMt rfl (.tmp 53) (.tmp 55) rfl (.slice a9 n c9) n _ rfl wN.heap.size (HO9.out.alloc _) (by simp; omega) m.cells _ 1 rfl (by simp) rfl (MV.one m) (by omega) (by omega) ?_); intro v' w9 hown' hg hat; obtain ⟨a10, c10, bb10, rfl, _⟩ := Sl.own hown'; have r9 := (((HR9.out.alloc (.cells m.cells.toArray 48)).alloc (.cells m.cells.toArray 48))).kept hg (fun e => by have := (HO9.out.lt _ e.symm).1; omega); have x24 := RowB.cell r9 24 _ (set_at (by rw [HBL.out]; omega)); have y24 := RowB.frozen r9 24; have HST := Lib.hid (cf_step HW.out ((Keeps.refl wr).alloc (.cells m.cells.toArray 48)) hlt HMK.out HS4.out HNN.out (HO9.out.alloc _) hown' hg r9 (Nat.le_trans HB9.out (Nat.le_refl _)) hl9 hl10 HNE.out); clear hown' hg hat r9)
              go_roundw
              case rel => exact ⟨k + 1, by omega, by go_num, HST⟩
              case measure => simp [intOf]; omega
            · have e4 : (m.x.state == 4) = false := by simpa using h4
              have HSK := Lib.hid (cf_skip HW.out hlt HMK.out h4 ((Keeps.refl wr).alloc (.cells #[.int .i64 m.x.id, .slice m.al m.x.left.length m.cl, .slice m.ar m.x.right.length m.cr, .int .i64 m.x.state] 48)))
              clear h4
              go_wp2_with fail
              go_roundw
              case rel => exact ⟨k + 1, by omega, by go_num, HSK⟩
              case measure => simp [intOf]; omega
          · obtain rfl : k = ms.length := by omega
            obtain ⟨a9, c9, hr9, ho9⟩ := HW.out.box
            rw [List.take_length] at hr9 ho9
            obtain ⟨ao6, cap6, b6, he6, hs6⟩ := Sl.own ho9
            cases he6
            have HR9 := Lib.hid hr9
            have HS6 := Lib.hid hs6
            have hc6 := Sl.cap hs6
            have hn6 := Sl.le hs6
            have HR10 := Lib.hid HW.out.r10
            have e1 : decide ((l1.length : Int) ≤ ((confM ms).length : Int)) = true := decide_eq_true (by omega)
            have HS24 : Hid ((bv.set 24 (.slice a9 (confM ms).length c9))[24]? = some (.slice a9 (confM ms).length c9)) := Lib.hid (set_at (by rw [HBL.out]; omega))
            have HLS : Hid (∀ v : Value, (bv.set 24 v).length = 27) := Lib.hid (fun v => by rw [List.length_set]; exact HBL.out)
            clear hr9 ho9 hs6
            go_wp2_with (first | (refine wpList_rowG 36 _ rfl rfl b9 (bv.set 24 (.slice a9 (confM ms).length c9)) _ rfl (RowB.range HR9.out) Tryz.underlying36 rfl (by rw [HLS.out]; exact booksSize) ?_) | (go_at_call 11; guard_hyp HPC : _; (refine (HPC.out a9 c9 b6 _ KW.out HS6.out).mono ?_); rintro e7 w7 ⟨v7, rfl, hp7, hk7⟩; have HP7 := Lib.hid hp7; have K7 := Lib.hid hk7; have HR107 := Lib.hid (HR10.out.keeps hk7); obtain ⟨ay, cy, rfl, hly, hcy⟩ := hp7.shape; clear hp7 hk7 HPC) | (refine wpList_rowG 36 _ rfl rfl b10 (bv.set 24 (.slice none 0 0)) _ rfl (RowB.range HR107.out) Tryz.underlying36 rfl (by rw [HLS.out]; exact booksSize) ?_) | (go_at_call 11; guard_hyp K7 : _; (refine (HPN.out _ (KW.out.trans K7.out)).mono ?_); rintro e8 w8 ⟨v8, rfl, hp8, hk8⟩; have K8 := Lib.hid (K7.out.trans hk8); have K78 := Lib.hid hk8; obtain ⟨az, cz, rfl, hlz, hcz⟩ := hp8.shape; clear hp8 hk8) | (go_at_call 13; (refine (samep_any l1 _ _ w8 (HP3.out.keeps (HW.out.kp.trans K8.out)) (HP7.out.keeps K78.out)).mono ?_); rintro e10 w10 ⟨rfl, hk10⟩; have K10 := Lib.hid (K8.out.trans hk10); have z24 := RowB.cell (HR9.out.keeps K10.out) 24 _ HS24.out; clear hk10))
            go_ret
            exact ⟨rfl, HK0.out.trans (KW.out.trans K10.out)⟩
    · have hnil : l1 = [] := by rw [← hl1]; exact posts_bad (by rw [her]; exact h0)
      subst hnil
      have e0 : (er != 0) = true := by simpa using h0
      clear H HI hrg hk0 hq SM hA her hl1 h0
      go_enter Tryz.func4, Tryz.ntmps4
      go_upto_region 1 with fail
      try rw [hW1]
      clear hW1
      go_wp2_with (first | (go_at_call 9; (refine (awake_any _).mono ?_); rintro e1 w1 ⟨rfl, hk1⟩; have K1 := Lib.hid hk1; clear hk1) | (refine wpList_rowG 36 _ rfl rfl w.heap.size bv _ rfl (HRG.out _ K1.out) Tryz.underlying36 rfl (by rw [HBL.out]; exact booksSize) ?_) | (go_at_call 10; (refine (HF.out _ K1.out).mono ?_); rintro e2 w2 ⟨rfl, hk2⟩; have K2 := Lib.hid (K1.out.trans hk2); clear hk2) | (refine wpList_rowG 36 _ rfl rfl w.heap.size bv _ rfl (HRG.out _ K2.out) Tryz.underlying36 rfl (by rw [HBL.out]; exact booksSize) ?_) | (go_at_call 11; (refine (HP1.out _ K2.out).mono ?_); rintro e3 w3 ⟨v3, rfl, hp3, hk3⟩; have HP3 := Lib.hid hp3; have K3 := Lib.hid (K2.out.trans hk3); obtain ⟨ax, cx, rfl, hlx, hcx⟩ := hp3.shape; clear hp3 hk3))
      go_ret
      exact ⟨rfl, HK0.out.trans K3.out⟩
end Go.Proofs.YtoaidbhiciaeaaaGreat

end
