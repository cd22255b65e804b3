/- partner.Net: the walk. -/
import Derived.Test.YtfddhmhagijodaaLinW
import Derived.Test.YtfddhmhagijodaaKeyGI
import Derived.Test.YtfddhmhagijodaaNetP
namespace Go.Proofs.Ytfddhmhagijodaa
open Go.RowKit Go.Maps
set_option linter.unusedSimpArgs false
set_option linter.unusedVariables false

/-- Numbers of 64 bits. -/
def Ln.Ok (l : Ln) : Prop := I64 l.acc ∧ I64 l.amt ∧ I64 l.ptn
def Jrn.Ok (x : Jrn) : Prop := I64 x.id ∧ I64 x.ent ∧ I64 x.date ∧ I64 x.kind ∧ I64 x.of_ ∧ ∀ l ∈ x.lines, l.Ok
def Plc.Ok (p : Plc) : Prop := I64 p.ent ∧ I64 p.acc ∧ I64 p.amt ∧ I64 p.ptn ∧ I64 p.eid ∧ I64 p.idx ∧ I64 p.date
theorem lnsAt_ok {x : Jrn} (hx : x.Ok) (i : Nat) : ∀ (t : List Ln) (k : Nat), k + t.length ≤ 1000000 → (∀ l ∈ t, l ∈ x.lines) → ∀ p ∈ lnsAt x i k t, p.Ok
  | [], k, _, _, p, h => absurd h List.not_mem_nil
  | a :: t, k, hk, hs, p, h => by
    rw [lnsAt] at h
    rcases List.mem_cons.1 h with rfl | h
    · have ha := hx.2.2.2.2.2 a (hs a (List.mem_cons_self ..))
      exact ⟨hx.2.1, ha.1, ha.2.1, ha.2.2, hx.1, by show -9223372036854775808 ≤ (k : Int) ∧ (k : Int) ≤ 9223372036854775807; simp only [List.length_cons] at hk; omega, hx.2.2.1⟩
    · exact lnsAt_ok hx i t (k + 1) (by simp only [List.length_cons] at hk; omega) (fun l hl => hs l (List.mem_cons_of_mem _ hl)) p h
theorem plsAt_ok (date : Int) : ∀ (t : List Jrn) (i : Nat), (∀ x ∈ t, x.Ok ∧ x.lines.length ≤ 8) → ∀ p ∈ plsAt date i t, p.Ok
  | [], i, _, p, h => absurd h List.not_mem_nil
  | a :: t, i, hx, p, h => by
    rw [plsAt] at h
    rcases List.mem_append.1 h with h | h
    · unfold jPls at h
      split at h
      · exact absurd h List.not_mem_nil
      · have ha := hx a (List.mem_cons_self ..)
        exact lnsAt_ok ha.1 i a.lines 0 (by omega) (fun l hl => hl) p h
    · exact plsAt_ok date t (i + 1) (fun x hxm => hx x (List.mem_cons_of_mem _ hxm)) p h
theorem btw_ok {date en pt : Int} {l : List Jrn} (h : ∀ x ∈ l, x.Ok ∧ x.lines.length ≤ 8) : ∀ p ∈ btw date en pt l, p.Ok := fun p hp => by
  have hp := (List.mem_filter.1 hp).1
  rw [places, mem_sortPl (plsAt_apart date l 0)] at hp
  exact plsAt_ok date l 0 h p hp
theorem wr64_eq (n : Int) : wr64 n = wrap64 n := by unfold wr64 wrap64; rfl
def sumV (L : List Plc) (c : Int) : Option Value := (sumF L c).map (.int .i64)
theorem sumV_some (L : List Plc) (c : Int) : (sumV L c).isSome = (sumF L c).isSome := by unfold sumV; cases sumF L c <;> rfl
theorem sumV_get (L : List Plc) (c : Int) : (sumV L c).getD (.int .i64 0) = .int .i64 ((sumF L c).getD 0) := by unfold sumV; cases sumF L c <;> rfl
/-- The sums of lines: the list. -/
theorem elemBalN : ElemOf Try.prog 42 52 (.agg #[.int .i64 0, .int .i64 0]) 2 16 := ⟨Try.underlying42, by kernel_rfl, rfl, by omega⟩
def netX (P : List Plc) (xs : List Int) : List Bal := nzN (xs.map (fun c => (⟨c, (sumF P c).getD 0⟩ : Bal)))
theorem netX_snoc (P : List Plc) (xs : List Int) (c : Int) : netX P (xs ++ [c]) = if (sumF P c).getD 0 = 0 then netX P xs else netX P xs ++ [⟨c, (sumF P c).getD 0⟩] := by
  unfold netX nzN
  rw [List.map_append, List.filter_append]
  by_cases h : (sumF P c).getD 0 = 0
  · rw [if_pos h]; simp [h]
  · rw [if_neg h]; simp [h]
theorem Sl.grownS {w w' : World} {sz : Nat} {ao : Option Addr} {n cap b o g : Nat} {cs : List Value} (h : Sl w sz ao n cap b o cs) (hg : w.grownBy w' (some g)) (hne : 0 < n → b ≠ g) : Sl w' sz ao n cap b o cs :=
  ⟨h.len, h.le, h.nocap, h.cap, h.addr, fun j u hu => hg.cell (h.cell j u hu) (fun e => by
    have hj := (List.getElem?_eq_some_iff.1 hu).1
    rw [h.len] at hj
    refine hne ?_ (Option.some.inj e)
    rcases Nat.eq_zero_or_pos n with e0 | e0
    · rw [e0] at hj; simp at hj
    · exact e0)⟩
theorem own_block {w : World} {base e size n cap b o : Nat} {ao : Option Addr} {xs : List Value} (h : w.ownsRow base e size (.slice ao n cap) n xs) (hs : Sl w size ao n cap b o xs) : 0 < n → base ≤ b := fun hn => by
  have ha := hs.addr hn
  subst ha
  exact (h.lt b rfl).1
set_option maxRecDepth 100000 in
set_option maxHeartbeats 2000000 in
theorem net_any (bv : List Value) (hbl : bv.length = 27) (hb1 : ∀ v ∈ bv, v.oneCell' = true) (es : List JV) (ao : Option Addr) (cap b o : Nat) (hbe : bv[21]? = some (.slice ao es.length cap)) (en pt date : Int) (w : World) (H : Jrns w es ao cap b o)
    (hn : es.length ≤ 42) (hm : ∀ e ∈ es, e.x.lines.length ≤ 8) (hok : ∀ e ∈ es, e.x.Ok) :
    Calls Try.prog 13 #[.agg bv.toArray, .int .i64 en, .int .i64 pt, .int .i64 date] w
      fun e w' => ∃ v l, e = .returned v ∧ NetZ (btw date en pt (es.map JV.x)) l ∧ w'.ownsRow w.heap.size 52 2 v l.length (l.flatMap Bal.cells) ∧ Keeps w w' ∧ l.length ≤ 336 := by
  have HP := Lib.hid (fun W hW => between_any bv hbl hb1 es ao cap b o hbe en pt date W (H.keeps hW) hn hm)
  have hxs : ∀ x ∈ es.map JV.x, x.Ok ∧ x.lines.length ≤ 8 := fun x hx => by obtain ⟨e, he, rfl⟩ := List.mem_map.1 hx; exact ⟨hok e he, hm e he⟩
  have hlen := btw_len date en pt (es.map JV.x) (fun x hx => (hxs x hx).2)
  have HOK := Lib.hid (btw_ok (date := date) (en := en) (pt := pt) hxs)
  rw [List.length_map] at hlen
  obtain ⟨P, hP⟩ : ∃ P, btw date en pt (es.map JV.x) = P := ⟨_, rfl⟩
  rw [hP] at HP hlen HOK ⊢
  clear hP H hb1 hbe hm hok hxs
  have hmm := @run_makeMap Try.prog
  have hrg : ((w.alloc (.cells bv.toArray 36)).alloc (.map #[] 0)).rangeAt w.heap.size 0 bv := range_keeps (box_range w bv 36) ((Keeps.refl _).alloc _)
  have hk0 : Keeps w ((w.alloc (.cells bv.toArray 36)).alloc (.map #[] 0)) := ((Keeps.refl w).alloc _).alloc _
  have hm0 : VMap intK ((w.alloc (.cells bv.toArray 36)).alloc (.map #[] 0)) (w.heap.size + 1) 0 (sumV []) := by
    have := VMap.made intK (w.alloc (.cells bv.toArray 36))
    simp only [World.size_alloc] at this
    exact this
  go_enter Try.func13, Try.ntmps13
  go_wp2_with (first | (refine wpList_books rfl (.tmp 4) rfl w.heap.size bv hbl rfl hrg ?_; clear hrg) | (go_at_call 28; refine (HP.out _ hk0).mono ?_; rintro e w1 ⟨v1, rfl, ho1, hk1⟩; obtain ⟨ao1, cap1, b1, e1, hs1⟩ := Sl.own ho1; subst e1; have hbb := own_block ho1 hs1; have HS1 := Lib.hid hs1; have HM1 := Lib.hid (hm0.keeps hk1); have HK1 := Lib.hid (hk0.trans hk1); have hz1 := hk1.size; clear hk1 hk0 ho1 hm0))
  have hcap1 := HS1.out.cap
  have hle1 := HS1.out.le
  simp only [World.size_alloc] at hz1 hbb
  go_loopw [22] (fun vi wr => ∃ k : Nat, k ≤ P.length ∧ vi = .int .i64 k ∧ Hid (Keeps w wr ∧ Sl wr 8 ao1 P.length cap1 b1 0 (P.flatMap Plc.cells) ∧ VMap intK wr (w.heap.size + 1) k (sumV (P.take k)))) (fun vi _ => P.length - (intOf vi).toNat)
  case atStart => exact ⟨0, Nat.zero_le _, rfl, Lib.hid ⟨HK1.out, HS1.out, HM1.out⟩⟩
  case round =>
    obtain ⟨k, hk, rfl, HW⟩ := hrel
    by_cases hlt : k < P.length
    · have hr : Recs wr 8 Plc.cells ao1 P cap1 b1 0 := HW.out.2.1
      have hix := Sl.at hr Try.underlying72 Try.sizeOf75 k hlt
      obtain ⟨p, hpk⟩ : ∃ p, P[k] = p := ⟨_, rfl⟩
      have c0 := hr.cell Plc.len k hlt 0 (.int .i64 p.eid) (by rw [hpk]; rfl)
      have c1 := hr.cell Plc.len k hlt 1 (.int .i64 p.idx) (by rw [hpk]; rfl)
      have c2 := hr.cell Plc.len k hlt 2 (.int .i64 p.date) (by rw [hpk]; rfl)
      have c3 := hr.cell Plc.len k hlt 3 (.int .i64 p.at_) (by rw [hpk]; rfl)
      have c4 := hr.cell Plc.len k hlt 4 (.int .i64 p.ent) (by rw [hpk]; rfl)
      have c5 := hr.cell Plc.len k hlt 5 (.int .i64 p.acc) (by rw [hpk]; rfl)
      have c6 := hr.cell Plc.len k hlt 6 (.int .i64 p.amt) (by rw [hpk]; rfl)
      have c7 := hr.cell Plc.len k hlt 7 (.int .i64 p.ptn) (by rw [hpk]; rfl)
      simp only [Nat.add_zero, Nat.zero_add] at c0 c1 c2 c3 c4 c5 c6 c7 hix
      have hpo : p.Ok := by rw [← hpk]; exact HOK.out _ (List.getElem_mem ..)
      have HPO := Lib.hid hpo
      obtain ⟨S, hS⟩ : ∃ S, (sumF (P.take k) p.acc).getD 0 = S := ⟨_, rfl⟩
      have hlk : (Instr.lookup 71 (.map (some (w.heap.size + 1))) (.int .i64 p.acc) false).run Try.prog (wr.alloc (.cells #[.int .i64 p.eid, .int .i64 p.idx, .int .i64 p.date, .int .i64 p.at_, .int .i64 p.ent, .int .i64 p.acc, .int .i64 p.amt, .int .i64 p.ptn] 75)) = .ok (.int .i64 S) (wr.alloc (.cells #[.int .i64 p.eid, .int .i64 p.idx, .int .i64 p.date, .int .i64 p.at_, .int .i64 p.ent, .int .i64 p.acc, .int .i64 p.amt, .int .i64 p.ptn] 75)) := by
        have := (HW.out.2.2.alloc (.cells #[.int .i64 p.eid, .int .i64 p.idx, .int .i64 p.date, .int .i64 p.at_, .int .i64 p.ent, .int .i64 p.acc, .int .i64 p.amt, .int .i64 p.ptn] 75)).look Try.underlying71 (fun w => Try.zeroValue3 w) (a := p.acc) hpo.2.1 _ rfl
        rw [sumV_get, hS] at this
        exact this
      have HT : Hid (P.take (k + 1) = P.take k ++ [p] ∧ (sumF (P.take k) p.acc).getD 0 = S) := Lib.hid ⟨by rw [take_snoc _ k hlt, hpk], hS⟩
      clear hpk hr hS hpo
      go_wp2_with ((refine wpList_vstore (K := intK) rfl _ _ _ 71 rfl Try.underlying71 (w.heap.size + 1) k rfl (HW.out.2.2.alloc _) (by unfold maxLen; omega) p.acc HPO.out.2.1 rfl (.int .i64 (wrap64 (S + p.amt))) rfl (sumV (P.take (k + 1))) (by rw [HT.out.1]; unfold sumV; rw [sumF_snoc, HT.out.2, wr64_eq]; rfl) (fun d _ hd => by rw [HT.out.1]; unfold sumV; rw [sumF_other _ _ _ hd]) ?_); intro w4 hm4 hg4; have HX : Hid (Keeps w w4 ∧ Sl w4 8 ao1 P.length cap1 b1 0 (P.flatMap Plc.cells) ∧ VMap intK w4 (w.heap.size + 1) (k + 1) (sumV (P.take (k + 1)))) := Lib.hid ⟨Below.grown (HW.out.1.alloc _) hg4 (HW.out.1.alloc _).size (fun j hj => by cases hj; omega), (HW.out.2.1.keeps ((Keeps.refl _).alloc _)).grownS hg4 (fun h0 => by have := hbb h0; omega), hm4⟩; clear hm4 hg4)
      go_roundw
      case rel => exact ⟨k + 1, by omega, by go_num, HX⟩
      case measure => simp [intOf]; omega
    · obtain rfl : k = P.length := by omega
      obtain ⟨wo, rfl⟩ : ∃ wo : World, wo = wr := ⟨_, rfl⟩
      have hm1 := HW.out.2.2
      rw [List.take_length] at hm1
      have HM := Lib.hid hm1
      have HKW := Lib.hid HW.out.1
      clear hm1 HW HM1 HK1 HS1
      go_wp2_with (first | (go_at_call 30; refine (keysI_any _ _).mono ?_; rintro e w2 ⟨rfl, rfl⟩) | (go_at_call 29; refine (sortedIn_any (w.heap.size + 1) P.length wo.heap.size (sumV P) _ (by go_simp) (HM.out.alloc _) (by omega)).mono ?_; rintro e w3 ⟨v3, xs, rfl, ⟨ao3, cap3, b3, o3, rfl, hs3⟩, hks3, hk3, hl3⟩; have HS3 := Lib.hid hs3; have HK3 := Lib.hid (((Keeps.refl wo).alloc (.cells #[.map (some (w.heap.size + 1))] 71)).trans hk3); have HKS := Lib.hid hks3; have hcap3 := hs3.cap; have hle3 := hs3.le; clear hs3 hk3 hks3))
      have HM3 := Lib.hid (HM.out.keeps HK3.out)
      go_loopw [12, 40] (fun vo vi w5 => ∃ k m : Nat, k ≤ xs.length ∧ m ≤ k ∧ vi = .int .i64 k ∧ Hid ((netX P (xs.take k)).length = m ∧ Keeps w3 w5 ∧ w5.ownsRow w3.heap.size 52 2 vo m ((netX P (xs.take k)).flatMap Bal.cells))) (fun _ vi _ => xs.length - (intOf vi).toNat)
      case atStart => exact ⟨0, 0, Nat.zero_le _, Nat.le_refl _, rfl, Lib.hid ⟨rfl, Keeps.refl w3, World.ownsRow_nil _ _ _ _⟩⟩
      case round =>
        obtain ⟨k, m, hk, hmk, rfl, HX⟩ := hrel
        by_cases hlt : k < xs.length
        · have hs := HS3.out.keeps HX.out.2.1
          have hix := Sl.at1 hs Try.underlying76 Try.sizeOf3 k hlt
          have ck := hs.int k hlt
          obtain ⟨c, hc⟩ : ∃ c, xs[k] = c := ⟨_, rfl⟩
          rw [hc] at ck
          obtain ⟨S, hS⟩ : ∃ S, (sumF P c).getD 0 = S := ⟨_, rfl⟩
          have hc64 : I64 c := (HKS.out.2 c).1 (hc ▸ List.getElem_mem hlt) |>.1
          have hlk := (HM3.out.keeps HX.out.2.1).look Try.underlying71 (fun w => Try.zeroValue3 w) (a := c) hc64 _ rfl
          rw [sumV_get, hS] at hlk
          have HT : Hid (netX P (xs.take (k + 1)) = if S = 0 then netX P (xs.take k) else netX P (xs.take k) ++ [⟨c, S⟩]) := Lib.hid (by rw [take_snoc _ k hlt, hc, netX_snoc, hS])
          change (Instr.lookup 71 (.map (some (w.heap.size + 1))) (.int .i64 c) false).run Try.prog wr = .ok (.int .i64 S) wr at hlk
          clear hc hS hs
          by_cases hz : S = 0
          · have ez : (S != 0) = false := by simp [hz]
            rw [if_pos hz] at HT
            clear hz
            go_wp2_with fail
            go_roundw
            case rel => exact ⟨k + 1, m, by omega, by omega, by go_num, Lib.hid (by rw [HT.out]; exact HX.out)⟩
            case measure => simp [intOf]; omega
          · have ez : (S != 0) = true := by simp [hz]
            rw [if_neg hz] at HT
            clear hz
            go_wp2_with (at_builtin; refine wpList_appx elemBalN rfl _ _ rfl w3 _ _ _ rfl w3.heap.size HX.out.2.2 HX.out.2.1 HX.out.2.1.size [.int .i64 c, .int .i64 S] _ 1 rfl rfl rfl (by intro u hu; simp at hu; rcases hu with rfl | rfl <;> rfl) (by omega) (by omega) ?_; intro v5 w6 hown5 hb5 hsz5; have HY : Hid ((netX P (xs.take (k + 1))).length = m + 1 ∧ Keeps w3 w6 ∧ w6.ownsRow w3.heap.size 52 2 v5 (m + 1) ((netX P (xs.take (k + 1))).flatMap Bal.cells)) := (Lib.hid ⟨by rw [HT.out, List.length_append, HX.out.1]; rfl, hb5, by rw [HT.out, List.flatMap_append]; exact hown5⟩); clear hown5 hb5 hsz5)
            go_roundw
            case rel => exact ⟨k + 1, m + 1, by omega, by omega, by go_num, HY⟩
            case measure => simp [intOf]; omega
        · obtain rfl : k = xs.length := by omega
          have hx := HX.out
          rw [List.take_length] at hx
          have HZ : Hid (NetZ P (netX P xs)) := Lib.hid ((net_keys xs HKS.out.1 (fun c => by
            rw [HKS.out.2 c, sumV_some]
            exact ⟨fun h => h.2, fun h => ⟨by obtain ⟨p, hp, rfl⟩ := sumF_some.1 h; exact (HOK.out p hp).2.1, h⟩⟩)).nz)
          go_wp2_with fail
          go_ret
          exact ⟨_, netX P xs, rfl, HZ.out, by rw [hx.1]; exact own_baseP hx.2.2 (Nat.le_trans HKW.out.size HK3.out.size), HKW.out.trans (HK3.out.trans hx.2.1), by rw [hx.1]; omega⟩
end Go.Proofs.Ytfddhmhagijodaa
