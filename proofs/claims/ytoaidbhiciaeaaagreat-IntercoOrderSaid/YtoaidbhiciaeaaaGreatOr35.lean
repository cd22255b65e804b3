/- Walks and plain facts that the claim rests on (LawIOr). No condition. -/
import Derived.Test.YtoaidbhiciaeaaaGreatOr34
import Derived.Deep.RegionHeld3
section
namespace Go.Proofs.YtoaidbhiciaeaaaGreat
open Go.RowKit
set_option linter.unusedSimpArgs false
set_option linter.unusedVariables false
set_option maxRecDepth 100000 in
set_option maxHeartbeats 8000000 in
theorem lawOr_any (bv : List Value) (g : Grp) (es : List JV) (hs : List Hol) (ms : List MV) (items : List Itm) (p : Int) (ao : Option Addr) (cap b o : Nat) (w : World) (H : BkG w bv g es hs ms) (ho : g.OkG) (hh : ∀ x ∈ hs, x.Ok) (hid : ∀ m ∈ ms, I64 m.x.id) (HI : Recs w 7 Itm.cells ao items cap b o) (hi : ∀ x ∈ items, x.OkI) (hsz : ∀ m ∈ ms, m.x.left.length + m.x.right.length ≤ 9223372036854775807) :
    Calls Tryz.prog 5 #[.agg bv.toArray, .slice ao items.length cap, .int .i64 p] w fun e w' => e = .returned (.bool true) ∧ Keeps w w' := by
  obtain ⟨q, hq⟩ : ∃ q, fewL g es hs ms items = q := ⟨_, rfl⟩
  have HBL := Lib.hid H.bks.len
  have hrg := box_range w bv 36
  have hk0 : Keeps w (w.alloc (.cells bv.toArray 36)) := (Keeps.refl w).alloc _
  obtain ⟨W1, hW1⟩ : ∃ W1, w.alloc (.cells bv.toArray 36) = W1 := ⟨_, rfl⟩
  rw [hW1] at hrg hk0
  have HK0 := Lib.hid hk0
  have HRG : Hid (∀ W, Keeps W1 W → W.rangeAt w.heap.size 0 bv) := Lib.hid (fun W hk => range_keeps hrg hk)
  have HF : Hid (∀ W, Keeps W1 W → Calls Tryz.prog 10 #[.agg bv.toArray, .slice ao items.length cap] W fun e w' => e = .returned (.bool q) ∧ Keeps W w') := Lib.hid (fun W hk => by
    have := lfew_any bv g es hs ms items ao cap b o W (H.keeps (hk0.trans hk)) (HI.keeps (hk0.trans hk))
    rw [hq] at this
    exact this)
  cases q with
  | false =>
    clear H HI hrg hk0 hq
    go_enter Tryz.func5, Tryz.ntmps5
    go_upto_region 1 with fail
    try rw [hW1]
    clear hW1
    go_wp2_with (first | (go_at_call 9; guard_hyp K2 : _; (refine (awake_any _).mono ?_); rintro e3 w3 ⟨rfl, hk3⟩; have K3 := Lib.hid (K2.out.trans hk3); clear hk3) | (go_at_call 9; (refine (awake_any _).mono ?_); rintro e1 w1 ⟨rfl, hk1⟩; have K1 := Lib.hid hk1; clear hk1) | (refine wpList_rowG 36 _ rfl rfl w.heap.size bv _ rfl (HRG.out _ K1.out) Tryz.underlying36 rfl (by rw [HBL.out]; exact booksSize) ?_) | (go_at_call 10; (refine (HF.out _ K1.out).mono ?_); rintro e2 w2 ⟨rfl, hk2⟩; have K2 := Lib.hid (K1.out.trans hk2); clear hk2))
    go_ret
    exact ⟨rfl, HK0.out.trans K3.out⟩
  | true =>
    obtain ⟨SM, hA, hes, hml, hss⟩ := fewL_ok hq H ho hh hid hi hsz
    obtain ⟨er, her⟩ : ∃ er, (postsF g es hs ms items p).2 = er := ⟨_, rfl⟩
    obtain ⟨l1, hl1⟩ : ∃ l, (postsF g es hs ms items p).1 = l := ⟨_, rfl⟩
    have HP1 : Hid (∀ W, Keeps W1 W → Calls Tryz.prog 11 #[.agg bv.toArray, .slice ao items.length cap, .int .i64 p] W fun e w' => ∃ v, e = .returned (.tuple #[v, .int .i64 er]) ∧ PsV w' l1 v ∧ Keeps W w') := Lib.hid (fun W hk => by
      have := postings_any bv g es hs ms items p ao cap b o W (H.keeps (hk0.trans hk)) (HI.keeps (hk0.trans hk)) SM hA
      rw [her, hl1] at this
      exact this)
    have hilen := SM.ilen
    obtain ⟨aoM, capM, bM, oM, hb24, hM⟩ := H.bks.mts
    obtain ⟨aoE, capE, bE, oE, hb21, hE⟩ := H.bks.ents
    have HCM := Lib.hid (Sl.cap hM.row)
    have HCE := Lib.hid (Sl.cap hE.row)
    have hcI := Sl.cap HI
    have hlI := Sl.le HI
    have HM := Lib.hid hM
    have HE := Lib.hid hE
    have HII := Lib.hid HI
    have HP2 : Hid (∀ (aM aE a : Option Addr) (cM bM cE bE c b : Nat) W, Keeps W1 W → (es.reverse.map (fun e => e.x.id)).Nodup → (items.map Itm.ref).Nodup → Recs W 4 MV.cells aM ms.reverse cM bM 0 → Recs W 7 JV.cells aE es.reverse cE bE 0 → Recs W 7 Itm.cells a items.reverse c b 0 → Calls Tryz.prog 11 #[.agg ((bv.set 24 (.slice aM ms.length cM)).set 21 (.slice aE es.length cE)).toArray, .slice a items.length c, .int .i64 p] W fun e w' => ∃ v, e = .returned (.tuple #[v, .int .i64 er]) ∧ PsV w' l1 v ∧ Keeps W w') := Lib.hid (fun aM aE a cM bM cE bE c b W hk hd1 hd2 h1 h2 h3 => by
      have h0 := (H.keeps (hk0.trans hk)).turned (fun m hm => by simpa using hm) (fun m hm => by simpa using hm) h1 h2
      have := postings_any _ g es.reverse hs ms.reverse items.reverse p a c b 0 W h0 h3 SM.turned (fun x hx => hA x (by simpa using hx))
      rw [posts_turned hd1 hd2, her, hl1, List.length_reverse, List.length_reverse, List.length_reverse] at this
      exact this)
    have HON := Lib.hid H.bks.one
    have H24 := Lib.hid hb24
    have H21 := Lib.hid hb21
    clear H HI hrg hk0 hq SM hA her hl1 hM hE hb24 hb21
    go_enter Tryz.func5, Tryz.ntmps5
    go_upto_region 1 with fail
    try rw [hW1]
    clear hW1
    go_upto_region 5 with (first | (go_at_call 9; (refine (awake_any _).mono ?_); rintro e1 w1 ⟨rfl, hk1⟩; have K1 := Lib.hid hk1; clear hk1) | (refine wpList_rowG 36 _ rfl rfl w.heap.size bv _ rfl (HRG.out _ K1.out) Tryz.underlying36 rfl (by rw [HBL.out]; exact booksSize) ?_) | (go_at_call 10; (refine (HF.out _ K1.out).mono ?_); rintro e2 w2 ⟨rfl, hk2⟩; have K2 := Lib.hid (K1.out.trans hk2); clear hk2))
    go_wp2_with fail
    go_loopw [7, 8, 31] (fun v7 v8 vi wr => ∃ (k : Nat) (ar : Option Addr) (cr : Nat) (ab : Option Addr) (cb : Nat), k ≤ items.length ∧ v7 = .slice ar k cr ∧ v8 = .slice ab k cb ∧ vi = .int .i64 k ∧ Hid (OrA w2 wr items k ar cr ab cb)) (fun _ _ vi _ => items.length - (intOf vi).toNat)
    case atStart => exact ⟨0, _, _, _, _, Nat.zero_le _, rfl, rfl, rfl, Lib.hid (OrA.start w2 items)⟩
    case round =>
      obtain ⟨k, ar, cr, ab, cb, hk, rfl, rfl, rfl, HW⟩ := hrel
      have KW := Lib.hid (K2.out.trans HW.out.kp)
      by_cases hlt : k < items.length
      · have hr := HII.out.keeps (HK0.out.trans KW.out)
        have hix := Sl.at hr Tryz.underlying37 Tryz.sizeOf53 k hlt
        obtain ⟨x, hxk⟩ : ∃ x, items[k] = x := ⟨_, rfl⟩
        have hlt2 : items.length - 1 - k < items.length := by omega
        obtain ⟨y, hyk⟩ : ∃ y, items[items.length - 1 - k] = y := ⟨_, rfl⟩
        have c0 := hr.cell Itm.len k hlt 0 (.int .i64 x.ref.e) (by rw [hxk]; rfl)
        have c1 := hr.cell Itm.len k hlt 1 (.int .i64 x.ref.l) (by rw [hxk]; rfl)
        rw [Nat.add_zero] at c0
        have hiy := Sl.at hr Tryz.underlying37 Tryz.sizeOf53 _ hlt2
        rw [show ((items.length - 1 - k : Nat) : Int) = (items.length : Int) - 1 - (k : Int) by omega] at hiy
        have HXK := Lib.hid hxk
        have HYK := Lib.hid hyk
        obtain ⟨arx, crx, brx, herx, hsr⟩ := Sl.own HW.out.o1
        cases herx
        have hlen : ((items.take k).map Itm.ref).length = k := by rw [List.length_map, List.length_take]; omega
        have hin := in_any ((items.take k).map Itm.ref) x.ref ar cr brx 0 wr (by unfold Recs; rw [hlen]; exact hsr)
        rw [hlen] at hin
        by_cases hmem : x.ref ∈ (items.take k).map Itm.ref
        · rw [show memB ((items.take k).map Itm.ref) x.ref = true from decide_eq_true hmem] at hin
          have HIN := Lib.hid hin
          clear hin hmem hr hxk hyk hsr hlen hiy
          go_wp2_with (go_at_call 14; (refine (HIN.out).mono ?_); rintro e5 w5 ⟨rfl, hk5⟩; have K5 := Lib.hid hk5; replace c0 := hk5.cell c0; replace c1 := hk5.cell c1; clear hk5)
          go_ret
          exact ⟨rfl, HK0.out.trans (KW.out.trans K5.out)⟩
        · rw [show memB ((items.take k).map Itm.ref) x.ref = false from decide_eq_false hmem] at hin
          have HIN := Lib.hid hin
          have HNO := Lib.hid hmem
          clear hin hmem hr hxk hyk hsr hlen
          go_wp2_with (first | (at_builtin; (refine wpList_app_rawR elemItm rfl (.tmp 49) (.tmp 58) rfl (.slice ab k cb) k _ rfl w2.heap.size HM9.out.2 HM9.out.1.size y.cells _ 1 rfl rfl rfl (Itm.oneC _) (by omega) (by omega) ?_); intro v6 w6 hown6 hg6 _; obtain ⟨a6, c6, b6, rfl, _⟩ := Sl.own hown6; have HST := Lib.hid (HW.out.step hlt HXK.out HYK.out HNO.out HO9.out HM9.out hown6 hg6); clear hown6 hg6) | (at_builtin; (refine wpList_app_rawR elemRf rfl (.tmp 41) (.tmp 47) rfl (.slice ar k cr) k _ rfl w2.heap.size (own_keepsH HW.out.o1 K5.out) (Nat.le_trans HW.out.kp.size K5.out.size) x.ref.cells _ 1 rfl rfl rfl (Rf.oneC _) (by omega) (by omega) ?_); intro v9 w9 hown9 hg9 _; obtain ⟨a9, c9, b9, rfl, _⟩ := Sl.own hown9; have HM9 := Lib.hid (HW.out.mid K5.out hg9); have HO9 := Lib.hid hown9; have hr9 := HII.out.keeps (HK0.out.trans (K2.out.trans HM9.out.1)); have d0 := hr9.cell Itm.len _ hlt2 0 (.int .i64 y.ref.e) (by rw [HYK.out]; rfl); have d1 := hr9.cell Itm.len _ hlt2 1 (.int .i64 y.ref.l) (by rw [HYK.out]; rfl); have d2 := hr9.cell Itm.len _ hlt2 2 (.int .i64 y.ent) (by rw [HYK.out]; rfl); have d3 := hr9.cell Itm.len _ hlt2 3 (.int .i64 y.acc) (by rw [HYK.out]; rfl); have d4 := hr9.cell Itm.len _ hlt2 4 (.int .i64 y.ptn) (by rw [HYK.out]; rfl); have d5 := hr9.cell Itm.len _ hlt2 5 (.int .i64 y.date) (by rw [HYK.out]; rfl); have d6 := hr9.cell Itm.len _ hlt2 6 (.int .i64 y.amt) (by rw [HYK.out]; rfl); rw [Nat.add_zero] at d0; clear hr9; clear hown9 hg9) | (go_at_call 14; (refine (HIN.out).mono ?_); rintro e5 w5 ⟨rfl, hk5⟩; have K5 := Lib.hid hk5; replace c0 := hk5.cell c0; replace c1 := hk5.cell c1; clear hk5))
          go_roundw
          case rel => exact ⟨k + 1, _, _, _, _, by omega, rfl, rfl, by go_num, HST⟩
          case measure => simp [intOf]; omega
      · obtain rfl : k = items.length := by omega
        obtain ⟨arx, crx, brb, herx, hsb⟩ := Sl.own HW.out.o2
        cases herx
        rw [rev_all] at hsb
        have HBK := Lib.hid (show Recs wr 7 Itm.cells ab items.reverse cb brb 0 from by unfold Recs; rw [List.length_reverse]; exact hsb)
        have hnd := HW.out.nd
        rw [List.take_length] at hnd
        have HND := Lib.hid hnd
        have hcab := Sl.cap hsb
        have hlab := Sl.le hsb
        clear hnd hsb
        go_upto_region 14 with (first | (refine wpList_rowG 36 _ rfl rfl w.heap.size bv _ rfl (HRG.out _ KW.out) Tryz.underlying36 rfl (by rw [HBL.out]; exact booksSize) ?_) | (refine wpList_store_mid rfl 36 _ _ rfl wr.heap.size 0 bv.toArray rfl rfl (by have h := thereZ wr; rw [← HBL.out] at h; exact h) (by rw [List.size_toArray, HBL.out]; exact booksSize) (all_oneCell_toArray HON.out) ?_))
        have hth : (wr.alloc (.cells #[.string ⟨#[]⟩, .int .i64 0, .int .i64 0, .int .i64 0, .slice none 0 0, .int .i64 0, .int .i64 0, .int .i64 0, .int .i64 0, .int .i64 0, .int .i64 0, .int .i64 0, .int .i64 0, .int .i64 0, .int .i64 0, .int .i64 0, .int .i64 0, .int .i64 0, .int .i64 0, .int .i64 0, .slice none 0 0, .slice none 0 0, .slice none 0 0, .slice none 0 0, .slice none 0 0, .slice none 0 0, .string ⟨#[]⟩] 36)).there wr.heap.size 0 bv.length := by rw [HBL.out]; exact thereZ wr
        have hB : RowB ((wr.alloc (.cells #[.string ⟨#[]⟩, .int .i64 0, .int .i64 0, .int .i64 0, .slice none 0 0, .int .i64 0, .int .i64 0, .int .i64 0, .int .i64 0, .int .i64 0, .int .i64 0, .int .i64 0, .int .i64 0, .int .i64 0, .int .i64 0, .int .i64 0, .int .i64 0, .int .i64 0, .int .i64 0, .int .i64 0, .slice none 0 0, .slice none 0 0, .slice none 0 0, .slice none 0 0, .slice none 0 0, .slice none 0 0, .string ⟨#[]⟩] 36)).setCells wr.heap.size 0 bv) wr.heap.size 36 bv := rowB_all (show RowB (wr.alloc (.cells #[.string ⟨#[]⟩, .int .i64 0, .int .i64 0, .int .i64 0, .slice none 0 0, .int .i64 0, .int .i64 0, .int .i64 0, .int .i64 0, .int .i64 0, .int .i64 0, .int .i64 0, .int .i64 0, .int .i64 0, .int .i64 0, .int .i64 0, .int .i64 0, .int .i64 0, .int .i64 0, .int .i64 0, .slice none 0 0, .slice none 0 0, .slice none 0 0, .slice none 0 0, .slice none 0 0, .slice none 0 0, .string ⟨#[]⟩] 36)) wr.heap.size 36 zB from RowB.new _ _ _) HBL.out
        have hk2 : Keeps wr ((wr.alloc (.cells #[.string ⟨#[]⟩, .int .i64 0, .int .i64 0, .int .i64 0, .slice none 0 0, .int .i64 0, .int .i64 0, .int .i64 0, .int .i64 0, .int .i64 0, .int .i64 0, .int .i64 0, .int .i64 0, .int .i64 0, .int .i64 0, .int .i64 0, .int .i64 0, .int .i64 0, .int .i64 0, .int .i64 0, .slice none 0 0, .slice none 0 0, .slice none 0 0, .slice none 0 0, .slice none 0 0, .slice none 0 0, .string ⟨#[]⟩] 36)).setCells wr.heap.size 0 bv) := keeps_setCellsP (Nat.le_refl _) _ _ _ ((Keeps.refl wr).alloc _)
        obtain ⟨W3, hW3⟩ : ∃ W3, (wr.alloc (.cells #[.string ⟨#[]⟩, .int .i64 0, .int .i64 0, .int .i64 0, .slice none 0 0, .int .i64 0, .int .i64 0, .int .i64 0, .int .i64 0, .int .i64 0, .int .i64 0, .int .i64 0, .int .i64 0, .int .i64 0, .int .i64 0, .int .i64 0, .int .i64 0, .int .i64 0, .int .i64 0, .int .i64 0, .slice none 0 0, .slice none 0 0, .slice none 0 0, .slice none 0 0, .slice none 0 0, .slice none 0 0, .string ⟨#[]⟩] 36)).setCells wr.heap.size 0 bv = W3 := ⟨_, rfl⟩
        rw [hW3] at hB hk2 ⊢
        clear hW3 hth
        obtain ⟨B, hBe⟩ : ∃ B, wr.heap.size = B := ⟨_, rfl⟩
        rw [hBe] at hB ⊢
        have x24 := RowB.cell hB 24 _ H24.out
        have y24 := RowB.frozen hB 24
        have x21 := RowB.cell hB 21 _ H21.out
        have y21 := RowB.frozen hB 21
        have HB3 := Lib.hid hB
        have KB3 := Lib.hid hk2
        clear hB hk2
        go_upto_region 15 with fail
        have hB4 : RowB ((W3.setCell ⟨B, 24, none⟩ (.slice none 0 0)).setCell ⟨B, 21, none⟩ (.slice none 0 0)) B 36 ((bv.set 21 (.slice none 0 0)).set 24 (.slice none 0 0)) := by
          rw [List.set_comm _ _ (by omega)]
          exact (HB3.out.set 24 _).set 21 _
        have hk4 : Keeps wr ((W3.setCell ⟨B, 24, none⟩ (.slice none 0 0)).setCell ⟨B, 21, none⟩ (.slice none 0 0)) := (KB3.out.setCell (p := ⟨B, 24, none⟩) (by show _ ≤ B; omega) _).setCell (p := ⟨B, 21, none⟩) (by show _ ≤ B; omega) _
        obtain ⟨W4, hW4⟩ : ∃ W4, (W3.setCell ⟨B, 24, none⟩ (.slice none 0 0)).setCell ⟨B, 21, none⟩ (.slice none 0 0) = W4 := ⟨_, rfl⟩
        rw [hW4] at hB4 hk4 ⊢
        clear hW4 x24 y24 x21 y21 HB3 KB3
        have hBl := hB4.lt
        have hBr : wr.heap.size ≤ B := by omega
        have K4 := Lib.hid (KW.out.trans hk4)
        have HB4 := Lib.hid hB4
        have HK4 := Lib.hid hk4
        have hws : w.heap.size < W1.heap.size := World.block_lt_of_cell? _ _ (show W1.cell? ⟨w.heap.size, 24, none⟩ = some (.slice aoM ms.length capM) from by have := (HRG.out W1 (Keeps.refl _)) 24 _ H24.out; rwa [Nat.zero_add] at this)
        have hnB : w.heap.size ≠ B := by have := KW.out.size; omega
        clear hB4 hk4 hBe hws
        obtain ⟨wA, rfl⟩ : ∃ wA, wA = wr := ⟨_, rfl⟩
        have c24 : W4.cell? ⟨w.heap.size, 24, none⟩ = some (.slice aoM ms.length capM) := by
          have := (HRG.out W4 K4.out) 24 _ H24.out
          rwa [Nat.zero_add] at this
        go_wp2_with fail
        clear c24
        have hcM := HCM.out
        go_loopw [67] (fun vi wr => ∃ (k : Nat) (a : Option Addr) (c : Nat), k ≤ ms.length ∧ vi = .int .i64 k ∧ Hid (BxR MV.cells 4 48 wA W4 wr B 24 (bv.set 21 (.slice none 0 0)) ms k a c)) (fun vi _ => ms.length - (intOf vi).toNat)
        case atStart => exact ⟨0, _, _, Nat.zero_le _, rfl, Lib.hid (BxR.start HK4.out HB4.out)⟩
        case round =>
          obtain ⟨k, a, c, hk, rfl, HQ⟩ := hrel
          have KQ := Lib.hid (KW.out.trans HQ.out.kp)
          have q24 : wr.cell? ⟨w.heap.size, 24, none⟩ = some (.slice aoM ms.length capM) := by
            have := (HRG.out wr KQ.out) 24 _ H24.out
            rwa [Nat.zero_add] at this
          have x24 := RowB.cell HQ.out.box 24 _ (set_at (by rw [List.length_set, HBL.out]; omega))
          have y24 := RowB.frozen HQ.out.box 24
          by_cases hlt : k < ms.length
          · have hr := HM.out.row.keeps (HK0.out.trans KQ.out)
            have hlt2 : ms.length - 1 - k < ms.length := by omega
            have hiy := Sl.at hr Tryz.underlying33 Tryz.sizeOf48 _ hlt2
            obtain ⟨m, hmk⟩ : ∃ m, ms[ms.length - 1 - k] = m := ⟨_, rfl⟩
            have c0 := hr.cell MV.len _ hlt2 0 (.int .i64 m.x.id) (by rw [hmk]; rfl)
            have c1 := hr.cell MV.len _ hlt2 1 (.slice m.al m.x.left.length m.cl) (by rw [hmk]; rfl)
            have c2 := hr.cell MV.len _ hlt2 2 (.slice m.ar m.x.right.length m.cr) (by rw [hmk]; rfl)
            have c3 := hr.cell MV.len _ hlt2 3 (.int .i64 m.x.state) (by rw [hmk]; rfl)
            rw [show ((ms.length - 1 - k : Nat) : Int) = (ms.length : Int) - 1 - (k : Int) by omega] at hiy
            rw [Nat.add_zero] at c0
            have HMK := Lib.hid hmk
            have hz1 := World.block_lt_of_cell? _ _ x24
            have hz2 := World.block_lt_of_cell? _ _ q24
            have hz3 := World.block_lt_of_cell? _ _ c0
            simp only at hz1 hz2 hz3
            clear hr hmk
            have hw1 : IntKind.i64.wrap ((ms.length : Int) - 1) = (ms.length : Int) - 1 := IntWalk.i64_in _ (by omega)
            have hw2 : IntKind.i64.wrap ((ms.length : Int) - 1 - (k : Int)) = (ms.length : Int) - 1 - (k : Int) := IntWalk.i64_in _ (by omega)
            go_upto_region 18 with fail
            go_region_law (refine step_all_raw elemMt (by rfl) (.tmp 71) (.tmp 82) (by rfl) (.slice a k c) k _ (by rfl) W4.heap.size (by exact own_keepsH HQ.out.own ((Keeps.refl wr).drew.alloc _)) (by have := HQ.out.oth.size; first | omega | (simp; omega)) _ 1 1 _ 0 m.cells (by rfl) (by exact Sl.block rfl (fun j u hj => by rcases j with _ | _ | _ | _ | j <;> simp [MV.cells] at hj <;> subst hj <;> go_simp)) (MV.one m) (by omega) (by omega) ?_; intro v6 w6 hown6 hg6 hat6; obtain ⟨a8, c8, b8, rfl, _⟩ := Sl.own hown6; have HSB := Lib.hid (BxR.step (HQ.out.keeps (Keeps.refl wr).drew) hlt HMK.out hBr hBl HK4.out.size hown6 hg6); have rb := ((HQ.out.keeps (Keeps.refl wr).drew).box.alloc (.cells m.cells.toArray 48)).kept hg6 (fun e => by have := ((HQ.out.keeps (Keeps.refl wr).drew).own.lt _ e.symm).1; omega); have x3 := RowB.cell rb 24 _ (set_at (by rw [List.length_set, HBL.out]; omega)); have y3 := RowB.frozen rb 24; clear hown6 hg6 hat6 rb)
            all_goals
              go_wp2_with fail
              go_roundw
              case rel => exact ⟨k + 1, _, _, by omega, by go_num, HSB⟩
              case measure => simp [intOf]; omega
          · obtain rfl : k = ms.length := by omega
            obtain ⟨aMx, cMx, bMR, heM, hsM⟩ := Sl.own HQ.out.own
            cases heM
            have hom := HQ.out.own
            rw [rev_all] at hom
            have HOM := Lib.hid hom
            clear hom
            obtain ⟨W5, hW5⟩ : ∃ W5, W5 = wr := ⟨_, rfl⟩
            have q21 : wr.cell? ⟨w.heap.size, 21, none⟩ = some (.slice aoE es.length capE) := by
              have := (HRG.out wr KQ.out) 21 _ H21.out
              rwa [Nat.zero_add] at this
            have hB5 : RowB wr B 36 ((bv.set 24 (.slice a ms.length c)).set 21 (.slice none 0 0)) := by
              rw [List.set_comm _ _ (by omega)]
              exact HQ.out.box
            have HB5 := Lib.hid hB5
            have HK5 := Lib.hid HQ.out.kp
            have hcE := HCE.out
            clear hsM hB5 x24 y24 q24
            go_wp2_with fail
            subst hW5
            clear q21 HQ
            have hB5l := HB5.out.lt
            go_loopw [89] (fun vi wr => ∃ (k : Nat) (aE : Option Addr) (cE : Nat), k ≤ es.length ∧ vi = .int .i64 k ∧ Hid (BxR JV.cells 7 56 wA W5 wr B 21 (bv.set 24 (.slice a ms.length c)) es k aE cE) ∧ Hid ((es.reverse.take k).map (fun e => e.x.id)).Nodup) (fun vi _ => es.length - (intOf vi).toNat)
            case atStart => exact ⟨0, _, _, Nat.zero_le _, rfl, Lib.hid (BxR.start HK5.out HB5.out), Lib.hid (by simp)⟩
            case round =>
              obtain ⟨k, aE, cE, hk, rfl, HQ, HNE⟩ := hrel
              have KQ2 := Lib.hid (KW.out.trans HQ.out.kp)
              by_cases hlt : k < es.length
              · have q21 : wr.cell? ⟨w.heap.size, 21, none⟩ = some (.slice aoE es.length capE) := by
                  have := (HRG.out wr KQ2.out) 21 _ H21.out
                  rwa [Nat.zero_add] at this
                have hr := HE.out.row.keeps (HK0.out.trans KQ2.out)
                have hlt2 : es.length - 1 - k < es.length := by omega
                have hiy := Sl.at hr Tryz.underlying30 Tryz.sizeOf56 _ hlt2
                obtain ⟨x, hxk⟩ : ∃ x, es[es.length - 1 - k] = x := ⟨_, rfl⟩
                have c0 := hr.cell JV.len _ hlt2 0 (.int .i64 x.x.id) (by rw [hxk]; rfl)
                have c1 := hr.cell JV.len _ hlt2 1 (.int .i64 x.x.ent) (by rw [hxk]; rfl)
                have c2 := hr.cell JV.len _ hlt2 2 (.int .i64 x.x.date) (by rw [hxk]; rfl)
                have c3 := hr.cell JV.len _ hlt2 3 (.int .i64 x.x.kind) (by rw [hxk]; rfl)
                have c4 := hr.cell JV.len _ hlt2 4 (.int .i64 x.x.of_) (by rw [hxk]; rfl)
                have c5 := hr.cell JV.len _ hlt2 5 (.string x.x.text) (by rw [hxk]; rfl)
                have c6 := hr.cell JV.len _ hlt2 6 (.slice x.a x.x.lines.length x.c) (by rw [hxk]; rfl)
                rw [show ((es.length - 1 - k : Nat) : Int) = (es.length : Int) - 1 - (k : Int) by omega] at hiy
                rw [Nat.add_zero] at c0
                have hw1 : IntKind.i64.wrap ((es.length : Int) - 1) = (es.length : Int) - 1 := IntWalk.i64_in _ (by omega)
                have hw2 : IntKind.i64.wrap ((es.length : Int) - 1 - (k : Int)) = (es.length : Int) - 1 - (k : Int) := IntWalk.i64_in _ (by omega)
                have HXK := Lib.hid hxk
                clear hr hxk
                go_upto_region 24 with fail
                have hkx : Keeps wr (wr.alloc (.cells #[.int .i64 x.x.id, .int .i64 x.x.ent, .int .i64 x.x.date, .int .i64 x.x.kind, .int .i64 x.x.of_, .string x.x.text, .slice x.a x.x.lines.length x.c] 56)) := (Keeps.refl wr).alloc _
                have hb13 : RowB (wr.alloc (.cells #[.int .i64 x.x.id, .int .i64 x.x.ent, .int .i64 x.x.date, .int .i64 x.x.kind, .int .i64 x.x.of_, .string x.x.text, .slice x.a x.x.lines.length x.c] 56)) wr.heap.size 56 x.cells := RowB.new _ _ _
                obtain ⟨wx, hwx⟩ : ∃ wx, wr.alloc (.cells #[.int .i64 x.x.id, .int .i64 x.x.ent, .int .i64 x.x.date, .int .i64 x.x.kind, .int .i64 x.x.of_, .string x.x.text, .slice x.a x.x.lines.length x.c] 56) = wx := ⟨_, rfl⟩
                rw [hwx] at hkx hb13 ⊢
                clear hwx
                obtain ⟨b13, he13⟩ : ∃ b13, wr.heap.size = b13 := ⟨_, rfl⟩
                rw [he13] at hb13 ⊢
                have HX := Lib.hid (HQ.out.keeps hkx)
                have HB13 := Lib.hid hb13
                have KX := Lib.hid (KQ2.out.trans hkx)
                have x21 := RowB.cell HX.out.box 21 _ (set_at (by rw [List.length_set, HBL.out]; omega))
                clear c0 c1 c2 c3 c4 c5 c6 hiy q21 hkx hb13 he13
                go_wp2_with fail
                clear x21
                obtain ⟨wB, rfl⟩ : ∃ wB, wB = wr := ⟨_, rfl⟩
                have hlE : (es.reverse.take k).length = k := by rw [List.length_take, List.length_reverse]; omega
                have hcEk := HX.out.own
                go_loopw [105] (fun vj wr => ∃ j : Nat, j ≤ k ∧ vj = .int .i64 j ∧ Hid (Keeps wx wr) ∧ Hid (∀ q ∈ (es.reverse.take k).take j, q.x.id ≠ x.x.id)) (fun vj _ => k - (intOf vj).toNat)
                case atStart => exact ⟨0, Nat.zero_le _, rfl, Lib.hid (Keeps.refl wx), Lib.hid (by simp)⟩
                case round =>
                  obtain ⟨j, hj, rfl, HY, HZ⟩ := hrel
                  have KY := Lib.hid (KX.out.trans HY.out)
                  by_cases hjl : j < k
                  · obtain ⟨aEx, cEx, bEx, heE, hsE⟩ := Sl.own (HX.out.keeps HY.out).own
                    cases heE
                    have hrE : Recs wr 7 JV.cells aE (es.reverse.take k) cE bEx 0 := by unfold Recs; rw [hlE]; exact hsE
                    have hix := Sl.at hsE Tryz.underlying30 Tryz.sizeOf56 j hjl
                    obtain ⟨y, hyk⟩ : ∃ y, (es.reverse.take k)[j]'(by rw [hlE]; exact hjl) = y := ⟨_, rfl⟩
                    have d0 := hrE.cell JV.len j (by rw [hlE]; exact hjl) 0 (.int .i64 y.x.id) (by rw [hyk]; rfl)
                    have d1 := hrE.cell JV.len j (by rw [hlE]; exact hjl) 1 (.int .i64 y.x.ent) (by rw [hyk]; rfl)
                    have d2 := hrE.cell JV.len j (by rw [hlE]; exact hjl) 2 (.int .i64 y.x.date) (by rw [hyk]; rfl)
                    have d3 := hrE.cell JV.len j (by rw [hlE]; exact hjl) 3 (.int .i64 y.x.kind) (by rw [hyk]; rfl)
                    have d4 := hrE.cell JV.len j (by rw [hlE]; exact hjl) 4 (.int .i64 y.x.of_) (by rw [hyk]; rfl)
                    have d5 := hrE.cell JV.len j (by rw [hlE]; exact hjl) 5 (.string y.x.text) (by rw [hyk]; rfl)
                    have d6 := hrE.cell JV.len j (by rw [hlE]; exact hjl) 6 (.slice y.a y.x.lines.length y.c) (by rw [hyk]; rfl)
                    rw [Nat.add_zero] at d0
                    simp only [Nat.zero_add] at d0 d1 d2 d3 d4 d5 d6 hix
                    have z0 := RowB.cell (HB13.out.keeps HY.out) 0 (.int .i64 x.x.id) rfl
                    have hz1 := World.block_lt_of_cell? _ _ z0
                    simp only at hz1
                    have HYK := Lib.hid hyk
                    clear hsE hrE hyk hcEk
                    by_cases e : y.x.id = x.x.id
                    · have e4 : (y.x.id == x.x.id) = true := by simpa using e
                      clear e
                      go_wp2_with fail
                      go_ret
                      exact ⟨rfl, (HK0.out.trans KY.out).alloc _⟩
                    · have e4 : (y.x.id == x.x.id) = false := by simpa using e
                      have HZ2 : Hid (∀ q ∈ (es.reverse.take k).take (j + 1), q.x.id ≠ x.x.id) := Lib.hid (fun q hq => by
                        rw [take_snoc _ j (by rw [hlE]; exact hjl), HYK.out, List.mem_append, List.mem_singleton] at hq
                        rcases hq with hq | rfl
                        · exact HZ.out q hq
                        · exact e)
                      clear e
                      go_wp2_with fail
                      go_roundw
                      case rel => exact ⟨j + 1, by omega, by go_num, Lib.hid (HY.out.alloc _), HZ2⟩
                      case measure => simp [intOf]; omega
                  · obtain rfl : j = k := by omega
                    have HXY := Lib.hid (HX.out.keeps HY.out)
                    have x21 := RowB.cell HXY.out.box 21 _ (set_at (by rw [List.length_set, HBL.out]; omega))
                    have y21 := RowB.frozen HXY.out.box 21
                    have hzx := World.block_lt_of_cell? _ _ x21
                    simp only at hzx
                    have z0 := RowB.cell (HB13.out.keeps HY.out) 0 (.int .i64 x.x.id) rfl
                    have z1 := RowB.cell (HB13.out.keeps HY.out) 1 (.int .i64 x.x.ent) rfl
                    have z2 := RowB.cell (HB13.out.keeps HY.out) 2 (.int .i64 x.x.date) rfl
                    have z3 := RowB.cell (HB13.out.keeps HY.out) 3 (.int .i64 x.x.kind) rfl
                    have z4 := RowB.cell (HB13.out.keeps HY.out) 4 (.int .i64 x.x.of_) rfl
                    have z5 := RowB.cell (HB13.out.keeps HY.out) 5 (.string x.x.text) rfl
                    have z6 := RowB.cell (HB13.out.keeps HY.out) 6 (.slice x.a x.x.lines.length x.c) rfl
                    have HNZ : Hid ((es.reverse.take (j + 1)).map (fun e => e.x.id)).Nodup := Lib.hid (by
                      have hz := HZ.out
                      rw [List.take_of_length_le (by rw [hlE]; exact Nat.le_refl _)] at hz
                      rw [rev_take _ j hlt, HXK.out, List.map_append, List.map_singleton]
                      exact List.nodup_append.2 ⟨HNE.out, by simp, fun a ha b hb e => by
                        rw [List.mem_singleton] at hb
                        obtain ⟨q, hq, rfl⟩ := List.mem_map.1 ha
                        exact hz q hq (e.trans hb)⟩)
                    have hszX := HXY.out.oth.size
                    clear hcEk
                    go_wp2_with (at_builtin; (refine wpList_app_rawR elemJV rfl (.tmp 116) (.tmp 118) rfl (.slice aE j cE) j _ rfl W5.heap.size HXY.out.own hszX x.cells _ 1 rfl rfl rfl (JV.oneC _) (by omega) (by omega) ?_); intro v6 w6 hown6 hg6 _; obtain ⟨a8, c8, b8, rfl, _⟩ := Sl.own hown6; have HSC := Lib.hid (BxR.step HXY.out hlt HXK.out hBr hB5l (Nat.le_trans hBr (Nat.le_of_lt hB5l)) hown6 hg6); have rb := (HXY.out.box.alloc (.cells x.cells.toArray 56)).kept hg6 (fun e => by have := (HXY.out.own.lt _ e.symm).1; omega); have x3 := RowB.cell rb 21 _ (set_at (by rw [List.length_set, HBL.out]; omega)); have y3 := RowB.frozen rb 21; clear hown6 hg6 rb x21 y21)
                    go_roundw
                    case rel => exact ⟨j + 1, _, _, by omega, by go_num, HSC, HNZ⟩
                    case measure => simp [intOf]; omega
              · obtain rfl : k = es.length := by omega
                obtain ⟨aEx, cEx, bER, heE, hsE⟩ := Sl.own HQ.out.own
                cases heE
                rw [rev_all] at hsE
                have HRE := Lib.hid (show Recs wr 7 JV.cells aE es.reverse cE bER 0 from by unfold Recs; rw [List.length_reverse]; exact hsE)
                have hne := HNE.out
                rw [rev_all] at hne
                have HNE2 := Lib.hid hne
                have hom := HOM.out.kept HQ.out.oth (.inr fun e => by have := (HOM.out.lt B e).1; omega)
                obtain ⟨aMx, cMx, bMR, heM, hsM⟩ := Sl.own hom
                cases heM
                have HRM := Lib.hid (show Recs wr 4 MV.cells a ms.reverse c bMR 0 from by unfold Recs; rw [List.length_reverse]; exact hsM)
                have HRI := Lib.hid (HBK.out.keeps HQ.out.kp)
                have HBX := Lib.hid HQ.out.box
                have HBL2 : Hid (((bv.set 24 (.slice a ms.length c)).set 21 (.slice aE es.length cE)).length = 27) := Lib.hid (by rw [List.length_set, List.length_set]; exact HBL.out)
                clear hsE hsM hom hne HOM HB5 HK5 HB4 HK4
                go_wp2_with (first | (refine wpList_rowG 36 _ rfl rfl w.heap.size bv _ rfl (HRG.out _ KQ2.out) Tryz.underlying36 rfl (by rw [HBL.out]; exact booksSize) ?_) | (go_at_call 11; guard_hyp HP1 : _; (refine (HP1.out _ KQ2.out).mono ?_); rintro e7 w7 ⟨v7, rfl, hp7, hk7⟩; have HP7 := Lib.hid hp7; have K7 := Lib.hid hk7; obtain ⟨ax, cx, rfl, hlx, hcx⟩ := hp7.shape; clear hp7 hk7 HP1) | (refine wpList_rowG 36 _ rfl rfl B ((bv.set 24 (.slice a ms.length c)).set 21 (.slice aE es.length cE)) _ rfl (RowB.range (HBX.out.keeps K7.out)) Tryz.underlying36 rfl (by rw [HBL2.out]; exact booksSize) ?_) | (go_at_call 11; guard_hyp K7 : _; (refine (HP2.out a aE ab c bMR cE bER cb brb _ (KQ2.out.trans K7.out) HNE2.out HND.out (HRM.out.keeps K7.out) (HRE.out.keeps K7.out) (HRI.out.keeps K7.out)).mono ?_); rintro e8 w8 ⟨v8, rfl, hp8, hk8⟩; have HP8 := Lib.hid hp8; have K8 := Lib.hid hk8; obtain ⟨ay, cy, rfl, hly, hcy⟩ := hp8.shape; clear hp8 hk8) | (go_at_call 13; (refine (samep_any l1 _ _ w8 (HP7.out.keeps K8.out) HP8.out).mono ?_); rintro e9 w9 ⟨rfl, hk9⟩; have K9 := Lib.hid (KQ2.out.trans (K7.out.trans (K8.out.trans hk9))); clear hk9))
                go_ret
                exact ⟨rfl, HK0.out.trans K9.out⟩
end Go.Proofs.YtoaidbhiciaeaaaGreat

end
