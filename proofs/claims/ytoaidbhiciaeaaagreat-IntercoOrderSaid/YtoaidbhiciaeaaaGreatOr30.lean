/- Walks and plain facts that the claim rests on (IcS, SamP). No condition. -/
import Derived.Test.YtoaidbhiciaeaaaGreatOr28
import Derived.Test.YtoaidbhiciaeaaaGreatOr29
import Derived.Deep.RegionHeld3
import Derived.Deep.QuietTactic
import Derived.BigQuiet
import Derived.Laws.StructEq
section
namespace Go.Proofs.YtoaidbhiciaeaaaGreat
open Go.RowKit
set_option linter.unusedSimpArgs false
set_option linter.unusedVariables false
structure PV where
  x : Pst
  a : Option Addr
  c : Nat
  b : Nat
def PV.cells (e : PV) : List Value := [.int .i64 e.x.kind, .int .i64 e.x.ent, .int .i64 e.x.oth, .int .i64 e.x.rul, .slice e.a e.x.parts.length e.c]
theorem PV.len (e : PV) : e.cells.length = 5 := rfl
theorem PV.one (e : PV) : ∀ v ∈ e.cells, v.oneCell' = true := by
  intro v hv
  simp only [PV.cells, List.mem_cons, List.not_mem_nil, or_false] at hv
  rcases hv with rfl | rfl | rfl | rfl | rfl <;> rfl
def pstD : NestD PV Prt := ⟨2, Prt.cells, fun e => e.x.parts, PV.a, PV.c, PV.b⟩
theorem elemPst : ElemOf Tryz.prog 40 59 (.agg #[.int .i64 0, .int .i64 0, .int .i64 0, .int .i64 0, .slice none 0 0]) 5 56 := ⟨Tryz.underlying40, by kernel_rfl, rfl, by omega⟩
def PsV (w : World) (l : List Pst) (v : Value) : Prop := ∃ (ls : List PV) (ao : Option Addr) (cap b : Nat), v = .slice ao ls.length cap ∧ Recs w 5 PV.cells ao ls cap b 0 ∧ (∀ e ∈ ls, pstD.rec1 w e) ∧ ls.map PV.x = l
theorem PsV.keeps {w w' : World} {l : List Pst} {v : Value} (h : PsV w l v) (k : Keeps w w') : PsV w' l v := by
  obtain ⟨ls, ao, cap, b, e, h1, h2, h3⟩ := h
  exact ⟨ls, ao, cap, b, e, h1.keeps k, fun q hq => Sl.keeps (h2 q hq) k, h3⟩
theorem PsV.nil (w : World) : PsV w [] (.slice none 0 0) := ⟨[], none, 0, 0, rfl, Sl.nil _ _, fun _ h => absurd h List.not_mem_nil, rfl⟩
structure IcsR (w wr : World) (g : Grp) (a : Int) (X : List Eli) (k : Nat) (v : Value) (ls : List PV) : Prop where
  kp : Keeps w wr
  own : wr.ownsRow w.heap.size 59 5 v ls.length (ls.flatMap PV.cells)
  inn : Inn pstD wr v.ownBlock ls
  eq : ls.map PV.x = psts g a (X.take k)
  ok : ∀ q ∈ X.take k, okE g a q = true
theorem ok_snoc {g : Grp} {a : Int} {X : List Eli} {k : Nat} (h : ∀ q ∈ X.take k, okE g a q = true) (hk : k < X.length) {x : Eli} (hx : X[k] = x) (ho : okE g a x = true) : ∀ q ∈ X.take (k + 1), okE g a q = true := fun q hq => by
  rw [take_snoc _ k hk, hx] at hq
  rcases List.mem_append.1 hq with h1 | h1
  · exact h q h1
  · rw [List.mem_singleton] at h1; rw [h1]; exact ho
theorem ics_skip {w wr wn : World} {g : Grp} {a : Int} {X : List Eli} {k : Nat} {v : Value} {ls : List PV} (H : IcsR w wr g a X k v ls) (hk : k < X.length) {x : Eli} (hx : X[k] = x) (ho : okE g a x = true) (he : (pstE g a x).parts = []) (hn : Keeps wr wn) : IcsR w wn g a X (k + 1) v ls :=
  ⟨H.kp.trans hn, own_keepsH H.own hn, H.inn.keeps hn, by rw [H.eq, take_snoc _ k hk, hx, psts_snoc, if_pos he], ok_snoc H.ok hk hx ho⟩
theorem psts_len (g : Grp) (a : Int) (X : List Eli) : (psts g a X).length ≤ X.length := by
  unfold psts
  refine Nat.le_trans (List.length_filter_le _ _) ?_
  rw [List.length_map]; exact Nat.le_refl _
theorem own_items {g : Grp} {es : List JV} {hs : List Hol} {ms : List MV} {items : List Itm} {p : Int} {x : Eli} (h : x ∈ elisS g es hs ms items p) : ∀ i ∈ x.own, i ∈ items := by
  obtain ⟨m, hm, hb, rfl⟩ := elisS_mem.1 h
  unfold eliB at hb
  simp only [Bool.and_eq_true, List.all_eq_true] at hb
  intro i hi
  obtain ⟨r, hr, rfl⟩ := List.mem_map.1 hi
  have h1 := hb.2.2.2.2 r hr
  unfold refOk at h1
  rw [Bool.and_eq_true] at h1
  obtain ⟨z, hz⟩ := Option.isSome_iff_exists.1 h1.1
  unfold itemAt
  rw [hz]
  exact List.mem_of_find?_eq_some hz
theorem own_len {g : Grp} {es : List JV} {hs : List Hol} {ms : List MV} {items : List Itm} {p : Int} (hs2 : ∀ m ∈ ms, m.x.left.length ≤ 400 ∧ m.x.right.length ≤ 400) {x : Eli} (h : x ∈ elisS g es hs ms items p) : x.own.length ≤ 800 := by
  obtain ⟨m, hm, hb, rfl⟩ := elisS_mem.1 h
  have := hs2 m hm
  show ((m.x.left ++ m.x.right).map (itemAt items)).length ≤ 800
  rw [List.length_map, List.length_append]
  omega
theorem elisS_len (g : Grp) (es : List JV) (hs : List Hol) (ms : List MV) (items : List Itm) (p : Int) : (elisS g es hs ms items p).length ≤ ms.length := by
  unfold elisS
  rw [(sortE_perm _).length_eq]
  exact elis_len g es hs items _ ms
set_option maxRecDepth 100000 in
set_option maxHeartbeats 4000000 in
theorem postings_any (bv : List Value) (g : Grp) (es : List JV) (hs : List Hol) (ms : List MV) (items : List Itm) (p : Int) (ao : Option Addr) (cap b o : Nat) (w : World) (H : BkG w bv g es hs ms) (HI : Recs w 7 Itm.cells ao items cap b o) (SM : SmallB g es hs ms items) (hA : ∀ x ∈ items, x.OkA) :
    Calls Tryz.prog 11 #[.agg bv.toArray, .slice ao items.length cap, .int .i64 p] w fun e w' => ∃ v, e = .returned (.tuple #[v, .int .i64 (postsF g es hs ms items p).2]) ∧ PsV w' (postsF g es hs ms items p).1 v ∧ Keeps w w' := by
  obtain ⟨er, her⟩ : ∃ q, errI g es hs ms p = q := ⟨_, rfl⟩
  have HN : Hid (Calls Tryz.prog 25 #[.agg bv.toArray, .slice ao items.length cap, .int .i64 p] (w.alloc (.cells bv.toArray 36)) fun e w' => ∃ v, e = .returned (.tuple #[v, .int .i64 er]) ∧ Keeps (w.alloc (.cells bv.toArray 36)) w' ∧ (er = 0 → ∃ B mb, v = .pointer (some ⟨B, 0, none⟩) ∧ Fin w' B mb bv items (dayA g p) (dayB g p))) := Lib.hid (by
    have := finder_any bv g es hs ms items p ao cap b o _ (H.keeps ((Keeps.refl w).alloc (.cells bv.toArray 36))) (HI.keeps ((Keeps.refl w).alloc (.cells bv.toArray 36))) SM
    rw [her] at this
    exact this)
  have HBL := Lib.hid H.bks.len
  have hrg := box_range w bv 36
  have hk0 : Keeps w (w.alloc (.cells bv.toArray 36)) := (Keeps.refl w).alloc _
  have hz1 : w.heap.size + 1 = (w.alloc (.cells bv.toArray 36)).heap.size := by simp
  obtain ⟨W1, hW1⟩ : ∃ W1, w.alloc (.cells bv.toArray 36) = W1 := ⟨_, rfl⟩
  rw [hW1] at hrg hk0 HN hz1
  have HW1 := Lib.hid hk0
  have HRG : Hid (∀ W, Keeps W1 W → W.rangeAt w.heap.size 0 bv) := Lib.hid (fun W hk => range_keeps hrg hk)
  have HB := Lib.hid H
  have HSM := Lib.hid SM
  have HAI := Lib.hid hA
  have hml := SM.mlen
  clear H HI SM hrg hk0 hA
  by_cases h0 : er = 0
  · subst h0
    have HE := Lib.hid (rfl : (0 : Int) = 0)
    have HPF : Hid (postsF g es hs ms items p = postR g (dayA g p) (elisS g es hs ms items p)) := Lib.hid (by unfold postsF; rw [if_pos her])
    have HAM := Lib.hid (errI_zero her).2.2
    have HRO := Lib.hid HSM.out.gok.2.2.2.1
    have hel := elisS_len g es hs ms items p
    clear her
    go_enter Tryz.func11, Tryz.ntmps11
    go_upto_region 1 with fail
    try rw [hW1]
    try rw [hz1]
    clear hW1 hz1
    go_wp2_with (first | (refine wpList_rowG 36 _ rfl rfl w.heap.size bv _ rfl (HRG.out _ (Keeps.refl W1)) Tryz.underlying36 rfl (by rw [HBL.out]; exact booksSize) ?_) | (go_at_call 25; (refine (HN.out).mono ?_); rintro e1 w1 ⟨v1, rfl, hk1, hf1⟩; obtain ⟨B, mb, rfl, hfin⟩ := hf1 HE.out; have K1 := Lib.hid (HW1.out.trans hk1); have HFI := Lib.hid hfin; clear hk1 hf1 hfin) | (go_at_call 26; (refine (fall_any bv g es hs ms items B mb _ _ w1 HFI.out (HB.out.keeps K1.out) HSM.out HAM.out).mono ?_); rintro e2 w2 ⟨ts, ao2, cap2, b2, rfl, hs2, hi2, hx2, hk2⟩; have K2 := Lib.hid (K1.out.trans hk2); have HF2 := Lib.hid (HFI.out.keeps hk2); have HS2 := Lib.hid hs2; have HI2 := Lib.hid hi2; have HX2 : Hid (ts.map EV.x = elisS g es hs ms items p) := Lib.hid hx2; have hcap2 := Sl.cap hs2; have hle2 := Sl.le hs2; clear hs2 hi2 hx2 hk2))
    have htl : ts.length = (elisS g es hs ms items p).length := by
      have := congrArg List.length HX2.out
      rwa [List.length_map] at this
    have htb : ts.length ≤ 1000 := by omega
    have HTL := Lib.hid htl
    clear htl hel
    go_loopw [10, 28] (fun v vi wr => ∃ (k : Nat) (ls : List PV), k ≤ ts.length ∧ vi = .int .i64 k ∧ Hid (Keeps w2 wr) ∧ Hid (IcsR w2 wr g (dayA g p) (elisS g es hs ms items p) k v ls)) (fun _ vi _ => ts.length - (intOf vi).toNat)
    case atStart => exact ⟨0, [], Nat.zero_le _, rfl, Lib.hid (Keeps.refl _), Lib.hid ⟨Keeps.refl _, World.ownsRow_nil _ _ _ _, Inn.nil, by rw [List.take_zero]; rfl, by simp⟩⟩
    case round =>
      obtain ⟨k, ls, hk, rfl, HKR, HW⟩ := hrel
      have KW := Lib.hid (K2.out.trans HKR.out)
      by_cases hlt : k < ts.length
      · have hr := HS2.out.keeps HKR.out
        have hix := Sl.at hr Tryz.underlying80 Tryz.sizeOf83 k hlt
        obtain ⟨y, hyk⟩ : ∃ y, ts[k] = y := ⟨_, rfl⟩
        have c0 := hr.cell EV.len k hlt 0 (.int .i64 y.x.id) (by rw [hyk]; rfl)
        have c1 := hr.cell EV.len k hlt 1 (.int .i64 y.x.left) (by rw [hyk]; rfl)
        have c2 := hr.cell EV.len k hlt 2 (.slice y.a y.x.own.length y.c) (by rw [hyk]; rfl)
        simp only [Nat.add_zero, Nat.zero_add] at c0 c1 c2 hix
        have HLX : Hid (k < (elisS g es hs ms items p).length) := Lib.hid (by have := HTL.out; omega)
        have hyx : (elisS g es hs ms items p)[k]'HLX.out = y.x := by
          have : (ts.map EV.x)[k]'(by rw [List.length_map]; exact hlt) = y.x := by rw [List.getElem_map, hyk]
          rw [← this]
          congr 1
          exact HX2.out.symm
        have HYX := Lib.hid hyx
        have hym : y.x ∈ elisS g es hs ms items p := by rw [← hyx]; exact List.getElem_mem ..
        have hyr : eliD.rec1 w2 y := HI2.out y (by rw [← hyk]; exact List.getElem_mem ..)
        have HPO : Hid (Calls Tryz.prog 27 #[.pointer (some ⟨B, 0, none⟩), .agg #[.int .i64 y.x.id, .int .i64 y.x.left, .slice y.a y.x.own.length y.c]] (wr.alloc (.cells #[.int .i64 y.x.id, .int .i64 y.x.left, .slice y.a y.x.own.length y.c] 83)) (TOut (wr.alloc (.cells #[.int .i64 y.x.id, .int .i64 y.x.left, .slice y.a y.x.own.length y.c] 83)) (okE g (dayA g p) y.x) (pstE g (dayA g p) y.x))) := Lib.hid (
          post_any bv g es hs ms items B mb _ _ y.x.id y.x.left y.x.own y.a y.c y.b 0 _ (HF2.out.keeps (HKR.out.alloc _)) (HB.out.keeps (KW.out.alloc _)) HRO.out (Sl.keeps hyr (HKR.out.alloc _)) (own_len HSM.out.sides hym) (fun i hi => HAI.out i (own_items hym i hi)))
        clear hr hyk hyx hym hyr
        obtain ⟨x, hx⟩ : ∃ x, pstE g (dayA g p) y.x = x := ⟨_, rfl⟩
        rw [hx] at HPO
        have HX := Lib.hid hx
        clear hx
        cases hq : okE g (dayA g p) y.x with
        | false =>
          have HBD : Hid (postsF g es hs ms items p = ([], 2)) := Lib.hid (by
            rw [HPF.out]
            unfold postR
            rw [if_neg]
            rw [List.all_eq_true]
            intro hall
            have := hall _ (List.getElem_mem HLX.out)
            rw [HYX.out, hq] at this
            cases this)
          rw [hq] at HPO
          clear hq
          go_wp2_with (go_at_call 27; (refine (HPO.out).mono ?_); rintro e5 w5 ⟨v5, rfl, hk5, hy5, hn5⟩; obtain rfl := hn5 rfl)
          refine bodyPost_ret (results_tmp2 rfl _ _ _) rfl ?_
          rw [HBD.out]
          exact ⟨_, rfl, PsV.nil _, KW.out.trans ((((Keeps.refl wr).alloc _).trans hk5).alloc _)⟩
        | true =>
          have HQ := Lib.hid hq
          rw [hq] at HPO
          clear hq
          have hls : ls.length ≤ k := by
            have := congrArg List.length HW.out.eq
            rw [List.length_map] at this
            have h2 := psts_len g (dayA g p) ((elisS g es hs ms items p).take k)
            rw [List.length_take] at h2
            omega
          by_cases hp0 : x.parts = []
          · have e0 : x.parts.length = 0 := by rw [hp0]; rfl
            have HSK : Hid (∀ wn, Keeps wr wn → IcsR w2 wn g (dayA g p) (elisS g es hs ms items p) (k + 1) u10 ls) := Lib.hid (fun wn hwn => ics_skip HW.out HLX.out HYX.out HQ.out (by rw [HX.out]; exact hp0) hwn)
            clear hp0
            go_wp2_with (go_at_call 27; (refine (HPO.out).mono ?_); rintro e5 w5 ⟨v5, rfl, hk5, hy5, hn5⟩; obtain ⟨a5, c5, rfl, ho5⟩ := hy5 rfl)
            go_roundw
            case rel => exact ⟨k + 1, ls, by omega, by go_num, Lib.hid (HKR.out.trans ((((Keeps.refl wr).alloc _).trans hk5).alloc _)), Lib.hid (HSK.out _ ((((Keeps.refl wr).alloc _).trans hk5).alloc _))⟩
            case measure => simp [intOf]; omega
          · have e0 : decide ((0 : Int) < (x.parts.length : Int)) = true := by
              have : 0 < x.parts.length := List.length_pos_iff.2 hp0
              exact decide_eq_true (by omega)
            have e1 : 0 < x.parts.length := List.length_pos_iff.2 hp0
            have HNE := Lib.hid hp0
            clear hp0
            go_wp2_with (first | (go_at_call 27; (refine (HPO.out).mono ?_); rintro e5 w5 ⟨v5, rfl, hk5, hy5, hn5⟩; obtain ⟨a5, c5, rfl, ho5⟩ := hy5 rfl; have HO5 := Lib.hid ho5; have KR := Lib.hid (((Keeps.refl wr).alloc (.cells #[.int .i64 y.x.id, .int .i64 y.x.left, .slice y.a y.x.own.length y.c] 83)).trans hk5); have KR5 := Lib.hid hk5; obtain ⟨ao6, cap6, b6, he6, hs6⟩ := Sl.own ho5; cases he6; have HS6 := Lib.hid hs6; clear hy5 hn5 hk5 ho5 hs6) | (at_builtin; (refine wpList_app_nest elemPst rfl (.tmp 45) (.tmp 47) rfl w2 _ ls.length (ls.flatMap PV.cells) rfl w2.heap.size (own_keepsH HW.out.own (KR.out.alloc _)) (HKR.out.trans (KR.out.alloc _)) (HKR.out.trans (KR.out.alloc _)).size pstD ls (HW.out.inn.keeps (KR.out.alloc _)) ⟨x, a5, c5, b6⟩ (Sl.keeps HS6.out ((Keeps.refl w5).alloc _)) (off_new (D := pstD) (y := ⟨x, a5, c5, b6⟩) (HW.out.own.alloc (.cells #[.int .i64 y.x.id, .int .i64 y.x.left, .slice y.a y.x.own.length y.c] 83)) (own_keepsH HO5.out ((Keeps.refl w5).alloc _)) (Sl.keeps HS6.out ((Keeps.refl w5).alloc _))) [.int .i64 x.kind, .int .i64 x.ent, .int .i64 x.oth, .int .i64 x.rul, .slice a5 x.parts.length c5] _ 1 rfl (by simp) rfl (PV.one ⟨x, a5, c5, b6⟩) (by omega) (by omega) ?_); intro v' w9 hown' hinn' hk9 hsz9; have HNX : Hid (IcsR w2 w9 g (dayA g p) (elisS g es hs ms items p) (k + 1) v' (ls ++ [⟨x, a5, c5, b6⟩])) := Lib.hid ⟨hk9, by rw [List.length_append, List.flatMap_append]; exact hown', hinn', by rw [List.map_append, HW.out.eq, take_snoc _ k HLX.out, HYX.out, psts_snoc, if_neg (by rw [HX.out]; exact HNE.out), HX.out]; rfl, ok_snoc HW.out.ok HLX.out HYX.out HQ.out⟩; clear hown' hinn' hk9 hsz9))
            go_roundw
            case rel => exact ⟨k + 1, ls ++ [⟨x, a5, c5, b6⟩], by omega, by go_num, Lib.hid HNX.out.kp, HNX⟩
            case measure => simp [intOf]; omega
      · obtain rfl : k = ts.length := by omega
        have HBD : Hid (postsF g es hs ms items p = (psts g (dayA g p) (elisS g es hs ms items p), 0)) := Lib.hid (by
          rw [HPF.out]
          unfold postR
          rw [if_pos]
          rw [List.all_eq_true]
          have := HW.out.ok
          rw [HTL.out, List.take_length] at this
          exact this)
        have heq := HW.out.eq
        rw [HTL.out, List.take_length] at heq
        have HEQ := Lib.hid heq
        clear heq
        obtain ⟨ao6, cap6, b6, he6, hs6⟩ := Sl.own HW.out.own
        subst he6
        have HS6 := Lib.hid hs6
        clear hs6
        go_wp2_with fail
        refine bodyPost_ret (results_tmp2 rfl _ _ _) rfl ?_
        rw [HBD.out]
        exact ⟨_, rfl, ⟨ls, ao6, cap6, b6, rfl, HS6.out, fun q hq => (HW.out.inn q hq).1, HEQ.out⟩, KW.out⟩
  · have HPF : Hid (postsF g es hs ms items p = ([], er)) := Lib.hid (by unfold postsF; rw [if_neg (by rw [her]; exact h0), her])
    have e0 : (er != 0) = true := by simpa using h0
    clear h0 her
    go_enter Tryz.func11, Tryz.ntmps11
    go_upto_region 1 with fail
    try rw [hW1]
    try rw [hz1]
    clear hW1 hz1
    go_wp2_with (first | (refine wpList_rowG 36 _ rfl rfl w.heap.size bv _ rfl (HRG.out _ (Keeps.refl W1)) Tryz.underlying36 rfl (by rw [HBL.out]; exact booksSize) ?_) | (go_at_call 25; (refine (HN.out).mono ?_); rintro e1 w1 ⟨v1, rfl, hk1, _⟩; have K1 := Lib.hid hk1; clear hk1))
    refine bodyPost_ret (results_tmp2 rfl _ _ _) rfl ?_
    rw [HPF.out]
    exact ⟨_, rfl, PsV.nil _, HW1.out.trans K1.out⟩
end Go.Proofs.YtoaidbhiciaeaaaGreat

end
section
namespace Go.Proofs.YtoaidbhiciaeaaaGreat
open Go.RowKit
set_option linter.unusedSimpArgs false
set_option linter.unusedVariables false
theorem neqPrt (a b : Int) (w : World) : (binOp .neq 63 (.agg #[.int .i64 a, .int .i64 b]) (.agg #[.int .i64 a, .int .i64 b])).run Tryz.prog w = .ok (.bool false) w := by
  go_simp
set_option maxRecDepth 100000 in
set_option maxHeartbeats 4000000 in
theorem samep_any (l : List Pst) (v1 v2 : Value) (w : World) (H1 : PsV w l v1) (H2 : PsV w l v2) :
    Calls Tryz.prog 13 #[v1, v2] w fun e w' => e = .returned (.bool true) ∧ Keeps w w' := by
  obtain ⟨ls1, ao1, cap1, b1, rfl, hr1, hi1, he1⟩ := H1
  obtain ⟨ls2, ao2, cap2, b2, rfl, hr2, hi2, he2⟩ := H2
  have hl1 : ls1.length = l.length := by rw [← he1, List.length_map]
  have hl2 : ls2.length = l.length := by rw [← he2, List.length_map]
  have hc1 := Sl.cap hr1
  have hc2 := Sl.cap hr2
  have hn1 := Sl.le hr1
  have hn2 := Sl.le hr2
  rw [hl1] at hn1
  rw [hl2] at hn2
  rw [hl1, hl2]
  have HL1 := Lib.hid hl1
  have HL2 := Lib.hid hl2
  have HR1 := Lib.hid hr1
  have HR2 := Lib.hid hr2
  have HI1 := Lib.hid hi1
  have HI2 := Lib.hid hi2
  have HE1 := Lib.hid he1
  have HE2 := Lib.hid he2
  have hneq := neqPrt
  clear hl1 hl2 hr1 hr2 hi1 hi2 he1 he2
  go_enter Tryz.func13, Tryz.ntmps13
  go_wp2_with fail
  go_loopw [5] (fun vi wr => ∃ k : Nat, k ≤ l.length ∧ vi = .int .i64 k ∧ Hid (Keeps w wr)) (fun vi _ => l.length - (intOf vi).toNat)
  case atStart => exact ⟨0, Nat.zero_le _, rfl, Lib.hid (Keeps.refl _)⟩
  case round =>
    obtain ⟨k, hk, rfl, HW⟩ := hrel
    by_cases hlt : k < l.length
    · have hk1 : k < ls1.length := by rw [HL1.out]; exact hlt
      have hk2 : k < ls2.length := by rw [HL2.out]; exact hlt
      have h1 := HR1.out.keeps HW.out
      have h2 := HR2.out.keeps HW.out
      have hix := Sl.at h1 Tryz.underlying40 Tryz.sizeOf59 k hk1
      have hix2 := Sl.at h2 Tryz.underlying40 Tryz.sizeOf59 k hk2
      rw [HL1.out] at hix
      rw [HL2.out] at hix2
      obtain ⟨y1, hy1⟩ : ∃ y, ls1[k] = y := ⟨_, rfl⟩
      obtain ⟨y2, hy2⟩ : ∃ y, ls2[k] = y := ⟨_, rfl⟩
      have hx12 : y1.x = y2.x := by
        have e1 : (ls1.map PV.x)[k]? = some y1.x := by rw [List.getElem?_map, List.getElem?_eq_getElem hk1, hy1]; rfl
        have e2 : (ls2.map PV.x)[k]? = some y2.x := by rw [List.getElem?_map, List.getElem?_eq_getElem hk2, hy2]; rfl
        rw [HE1.out] at e1
        rw [HE2.out, e1] at e2
        exact Option.some.inj e2
      have hq1 := HI1.out y1 (by rw [← hy1]; exact List.getElem_mem ..)
      have hq2 := HI2.out y2 (by rw [← hy2]; exact List.getElem_mem ..)
      obtain ⟨x, a1, c1, bb1⟩ := y1
      obtain ⟨x2, a2, c2, bb2⟩ := y2
      simp only at hx12
      subst hx12
      have p0 := h1.cell PV.len k hk1 0 (.int .i64 x.kind) (by rw [hy1]; rfl)
      have p1 := h1.cell PV.len k hk1 1 (.int .i64 x.ent) (by rw [hy1]; rfl)
      have p2 := h1.cell PV.len k hk1 2 (.int .i64 x.oth) (by rw [hy1]; rfl)
      have p3 := h1.cell PV.len k hk1 3 (.int .i64 x.rul) (by rw [hy1]; rfl)
      have p4 := h1.cell PV.len k hk1 4 (.slice a1 x.parts.length c1) (by rw [hy1]; rfl)
      have r0 := h2.cell PV.len k hk2 0 (.int .i64 x.kind) (by rw [hy2]; rfl)
      have r1 := h2.cell PV.len k hk2 1 (.int .i64 x.ent) (by rw [hy2]; rfl)
      have r2 := h2.cell PV.len k hk2 2 (.int .i64 x.oth) (by rw [hy2]; rfl)
      have r3 := h2.cell PV.len k hk2 3 (.int .i64 x.rul) (by rw [hy2]; rfl)
      have r4 := h2.cell PV.len k hk2 4 (.slice a2 x.parts.length c2) (by rw [hy2]; rfl)
      simp only [Nat.zero_add, Nat.add_zero] at p0 p1 p2 p3 p4 r0 r1 r2 r3 r4 hix hix2
      have HKS : Hid (∀ W, Keeps wr W → W.cell? ⟨b1, k * 5, none⟩ = some (.int .i64 x.kind) ∧ W.cell? ⟨b1, k * 5 + 1, none⟩ = some (.int .i64 x.ent) ∧ W.cell? ⟨b1, k * 5 + 2, none⟩ = some (.int .i64 x.oth) ∧ W.cell? ⟨b1, k * 5 + 3, none⟩ = some (.int .i64 x.rul) ∧ W.cell? ⟨b1, k * 5 + 4, none⟩ = some (.slice a1 x.parts.length c1) ∧ W.cell? ⟨b2, k * 5, none⟩ = some (.int .i64 x.kind) ∧ W.cell? ⟨b2, k * 5 + 1, none⟩ = some (.int .i64 x.ent) ∧ W.cell? ⟨b2, k * 5 + 2, none⟩ = some (.int .i64 x.oth) ∧ W.cell? ⟨b2, k * 5 + 3, none⟩ = some (.int .i64 x.rul) ∧ W.cell? ⟨b2, k * 5 + 4, none⟩ = some (.slice a2 x.parts.length c2)) := Lib.hid (fun W hW => ⟨hW.cell p0, hW.cell p1, hW.cell p2, hW.cell p3, hW.cell p4, hW.cell r0, hW.cell r1, hW.cell r2, hW.cell r3, hW.cell r4⟩)
      have HQ1 : Hid (Recs w 2 Prt.cells a1 x.parts c1 bb1 0) := Lib.hid hq1
      have HQ2 : Hid (Recs w 2 Prt.cells a2 x.parts c2 bb2 0) := Lib.hid hq2
      clear h1 h2 hy1 hy2 hq1 hq2 p0 p1 p2 p3 p4 r0 r1 r2 r3 r4 hk1 hk2
      go_upto_region 6 with fail
      go_cut [6, 7] from 20 to 27 (fun v6 v7 W => ∃ g6 g7 : Nat, v6 = .pointer (some ⟨g6, 0, none⟩) ∧ v7 = .pointer (some ⟨g7, 0, none⟩) ∧ Hid (Keeps wr W ∧ (W.cell? ⟨g6, 0, none⟩ = some (.int .i64 x.kind) ∧ W.cell? ⟨g6, 1, none⟩ = some (.int .i64 x.ent) ∧ W.cell? ⟨g6, 2, none⟩ = some (.int .i64 x.oth) ∧ W.cell? ⟨g6, 3, none⟩ = some (.int .i64 x.rul) ∧ W.cell? ⟨g6, 4, none⟩ = some (.slice a1 x.parts.length c1)) ∧ (W.cell? ⟨g7, 0, none⟩ = some (.int .i64 x.kind) ∧ W.cell? ⟨g7, 1, none⟩ = some (.int .i64 x.ent) ∧ W.cell? ⟨g7, 2, none⟩ = some (.int .i64 x.oth) ∧ W.cell? ⟨g7, 3, none⟩ = some (.int .i64 x.rul) ∧ W.cell? ⟨g7, 4, none⟩ = some (.slice a2 x.parts.length c2))))
      case first =>
        go_region_held3 (fun W => W.cell? ⟨b1, k * 5, none⟩ = some (.int .i64 x.kind) ∧ W.cell? ⟨b1, k * 5 + 1, none⟩ = some (.int .i64 x.ent) ∧ W.cell? ⟨b1, k * 5 + 2, none⟩ = some (.int .i64 x.oth) ∧ W.cell? ⟨b1, k * 5 + 3, none⟩ = some (.int .i64 x.rul) ∧ W.cell? ⟨b1, k * 5 + 4, none⟩ = some (.slice a1 x.parts.length c1) ∧ W.cell? ⟨b2, k * 5, none⟩ = some (.int .i64 x.kind) ∧ W.cell? ⟨b2, k * 5 + 1, none⟩ = some (.int .i64 x.ent) ∧ W.cell? ⟨b2, k * 5 + 2, none⟩ = some (.int .i64 x.oth) ∧ W.cell? ⟨b2, k * 5 + 3, none⟩ = some (.int .i64 x.rul) ∧ W.cell? ⟨b2, k * 5 + 4, none⟩ = some (.slice a2 x.parts.length c2)) (first | exact HKS.out _ (Keeps.refl _).drew | exact HKS.out _ ((Keeps.refl _).drew.alloc _) | exact HKS.out _ (((Keeps.refl _).drew.alloc _).alloc _)) (fail)
        all_goals (go_wp2_with fail; go_meet; refine ⟨_, _, rfl, rfl, Lib.hid ⟨((Keeps.refl wr).drew.alloc _).alloc _, ⟨?_, ?_, ?_, ?_, ?_⟩, ?_, ?_, ?_, ?_, ?_⟩⟩ <;> go_simp)
      case rest =>
        obtain ⟨g6, g7, rfl, rfl, HC⟩ := hcut
        obtain ⟨_, ⟨s0, s1, s2, s3, s4⟩, t0, t1, t2, t3, t4⟩ := HC.out
        have HKC := Lib.hid (HW.out.trans HC.out.1)
        have hcA := Sl.cap HQ1.out
        have hcB := Sl.cap HQ2.out
        have hnA := Sl.le HQ1.out
        have hnB := Sl.le HQ2.out
        clear HC
        go_wp2_with fail
        go_loopw [8] (fun vi wx => ∃ j q : Nat, j ≤ x.parts.length ∧ vi = .int .i64 j ∧ wx = wc.drewN q) (fun vi _ => x.parts.length - (intOf vi).toNat)
        case atStart => exact ⟨0, 0, Nat.zero_le _, rfl, rfl⟩
        case round =>
          obtain ⟨j, q, hj, rfl, rfl⟩ := hrel
          by_cases hjl : j < x.parts.length
          · have hA := HQ1.out.keeps HKC.out
            have hB := HQ2.out.keeps HKC.out
            have hiA := Sl.at hA Tryz.underlying57 Tryz.sizeOf63 j hjl
            have hiB := Sl.at hB Tryz.underlying57 Tryz.sizeOf63 j hjl
            have u0 := hA.cell Prt.len j hjl 0 _ rfl
            have u1 := hA.cell Prt.len j hjl 1 _ rfl
            have z0 := hB.cell Prt.len j hjl 0 _ rfl
            have z1 := hB.cell Prt.len j hjl 1 _ rfl
            simp only [Nat.add_zero, Nat.zero_add] at u0 u1 z0 z1 hiA hiB
            clear hA hB
            go_wp2_with fail
            go_quiet (fail)
            go_wp2_with fail
            go_roundw
            case rel => exact ⟨j + 1, _, by omega, by go_num, rfl⟩
            case measure => simp [intOf]; omega
          · go_wp2_with fail
            go_roundw
            case rel => exact ⟨k + 1, by omega, by go_num, Lib.hid (HKC.out.drewN _)⟩
            case measure => simp [intOf]; omega
    · go_wp2_with fail
      go_ret
      exact ⟨rfl, HW.out⟩
end Go.Proofs.YtoaidbhiciaeaaaGreat

end
