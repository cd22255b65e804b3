/- AllocateScaled, plain: the order is unique; a factor changes nothing; the negative total negates. No program. -/
import Derived.Test.YtppjjmjdiccloaaOrderP
namespace Go.Proofs.Ytppjjmjdiccloaa

theorem order_unique {rs rs' : Int → Int} {d d' : Nat → Int} {n : Nat} (hs : Srt rs d 0 n) (hm : Same 0 n (fun k => (k : Int)) d) (hs' : Srt rs' d' 0 n) (hm' : Same 0 n (fun k => (k : Int)) d')
    (he : ∀ u v, u < n → v < n → (lss rs (u : Nat) (v : Nat) ↔ lss rs' (u : Nat) (v : Nat))) : ∀ i, i < n → d i = d' i := by
  intro i
  induction i using Nat.strongRecOn with
  | _ i ih =>
    intro hi
    obtain ⟨u, _, hu, eu⟩ := hm.from_ i (Nat.zero_le _) hi
    obtain ⟨v, _, hv, ev⟩ := hm'.from_ i (Nat.zero_le _) hi
    have eu' : d i = (u : Int) := eu
    have ev' : d' i = (v : Int) := ev
    obtain ⟨j, _, hj, ej⟩ := hm'.onto u (Nat.zero_le _) hu
    obtain ⟨k, _, hk, ek⟩ := hm.onto v (Nat.zero_le _) hv
    have ej' : d' j = (u : Int) := ej
    have ek' : d k = (v : Int) := ek
    have hij : i ≤ j := by
      apply Nat.le_of_not_lt
      intro h
      have := ih j h hj
      have := hs.inj hj hi (by rw [this, ej', eu'])
      omega
    have hik : i ≤ k := by
      apply Nat.le_of_not_lt
      intro h
      have := ih k h hk
      have := hs'.inj hk hi (by rw [← this, ek', ev'])
      omega
    rcases Nat.lt_or_eq_of_le hij with h1 | h1
    · rcases Nat.lt_or_eq_of_le hik with h2 | h2
      · exfalso
        have a := hs' i j (Nat.zero_le _) h1 hj
        have b := hs i k (Nat.zero_le _) h2 hk
        rw [ev', ej'] at a
        rw [eu', ek'] at b
        exact lss_irrefl (lss_trans b ((he v u hv hu).2 a))
      · rw [← h2] at ek'; rw [ek', ev']
    · rw [← h1] at ej'; rw [ej', eu']
theorem inFirst_congr {d d' : Nat → Int} {n t : Nat} (h : ∀ i, i < n → d i = d' i) (ht : t ≤ n) (v : Nat) : inFirst d t v = inFirst d' t v := by
  rw [Bool.eq_iff_iff, inFirst_true, inFirst_true]
  constructor
  · rintro ⟨i, h1, h2⟩; exact ⟨i, h1, by rw [← h i (by omega)]; exact h2⟩
  · rintro ⟨i, h1, h2⟩; exact ⟨i, h1, by rw [h i (by omega)]; exact h2⟩

/-- The weights multiplied. -/
def scl (ws : List Int) (c : Int) : List Int := ws.map (· * c)
theorem scl_length (ws : List Int) (c : Int) : (scl ws c).length = ws.length := by simp [scl]
theorem scl_getD (ws : List Int) (c : Int) (v : Nat) : (scl ws c).getD v 0 = ws.getD v 0 * c := by
  unfold scl
  rw [List.getD_eq_getElem?_getD, List.getD_eq_getElem?_getD, List.getElem?_map]
  cases ws[v]? <;> simp
theorem scl_sum (ws : List Int) (c : Int) : lsum (scl ws c) = lsum ws * c := by
  induction ws with
  | nil => simp [scl, lsum]
  | cons x l ih => rw [show scl (x :: l) c = (x * c) :: scl l c from rfl, lsum_cons, lsum_cons, ih, Int.add_mul]
theorem scl_rsn (abs : Int) (ws : List Int) (c : Int) (hc : 0 < c) (v : Nat) : rsn abs (lsum (scl ws c)) (scl ws c) v = c * rsn abs (lsum ws) ws v := by
  unfold rsn
  rw [scl_getD, scl_sum, ← Int.mul_assoc, Int.mul_comm _ c, Int.mul_comm (lsum ws) c, Int.mul_emod_mul_of_pos _ _ hc]
theorem scl_bas (abs : Int) (ws : List Int) (c : Int) (hc : 0 < c) (v : Nat) : bas abs (lsum (scl ws c)) (scl ws c) v = bas abs (lsum ws) ws v := by
  unfold bas
  rw [scl_getD, scl_sum, ← Int.mul_assoc, Int.mul_comm _ c, Int.mul_comm (lsum ws) c, Int.mul_ediv_mul_of_pos _ _ hc]
theorem scl_lef (abs : Int) (ws : List Int) (c : Int) (hc : 0 < c) (k : Nat) : lef abs (lsum (scl ws c)) (scl ws c) k = lef abs (lsum ws) ws k := by
  unfold lef
  have : sumTo (bas abs (lsum (scl ws c)) (scl ws c)) k = sumTo (bas abs (lsum ws) ws) k := by
    induction k with
    | zero => rfl
    | succ k ih => rw [sumTo, sumTo, ih, scl_bas _ _ _ hc]
  rw [this]
theorem scl_lss (abs : Int) (ws : List Int) (c : Int) (hc : 0 < c) (u v : Nat) : lss (rst abs (lsum (scl ws c)) (scl ws c)) u v ↔ lss (rst abs (lsum ws) ws) u v := by
  unfold lss
  rw [rst_nat, rst_nat, rst_nat, rst_nat, scl_rsn _ _ _ hc, scl_rsn _ _ _ hc]
  constructor
  · rintro (h | ⟨h, h2⟩)
    · exact .inl (Int.lt_of_mul_lt_mul_left h (by omega))
    · exact .inr ⟨Int.eq_of_mul_eq_mul_left (by omega) h, h2⟩
  · rintro (h | ⟨h, h2⟩)
    · exact .inl (Int.mul_lt_mul_of_pos_left h hc)
    · exact .inr ⟨by rw [h], h2⟩
theorem scl_split {total : Int} {ws : List Int} {c : Int} {d d' : Nat → Int} (hc : 0 < c) (hW : WOk total ws) (hs : Srt (rst (sgn total total) (lsum ws) ws) d 0 ws.length) (hm : Same 0 ws.length (fun k => (k : Int)) d)
    (hs' : Srt (rst (sgn total total) (lsum (scl ws c)) (scl ws c)) d' 0 ws.length) (hm' : Same 0 ws.length (fun k => (k : Int)) d') : splitL total (scl ws c) d' = splitL total ws d := by
  have hu := order_unique hs' hm' hs hm (fun u v _ _ => scl_lss _ _ _ hc u v)
  have hL := lef_bd (abs := sgn total total) (ws := ws) (by unfold sgn; split <;> omega) hW.w hW.hs hW.h1
  unfold splitL
  rw [scl_length]
  apply List.map_congr_left
  intro v _
  unfold part
  rw [scl_bas _ _ _ hc, scl_lef _ _ _ hc, inFirst_congr hu (by omega)]
theorem neg_split {total : Int} {ws : List Int} {d d' : Nat → Int} (hW : WOk total ws) (hs : Srt (rst (sgn total total) (lsum ws) ws) d 0 ws.length) (hm : Same 0 ws.length (fun k => (k : Int)) d)
    (hs' : Srt (rst (sgn (-total) (-total)) (lsum ws) ws) d' 0 ws.length) (hm' : Same 0 ws.length (fun k => (k : Int)) d') : splitL (-total) ws d' = (splitL total ws d).map (fun x => -x) := by
  have e : sgn (-total) (-total) = sgn total total := by unfold sgn; split <;> split <;> omega
  rw [e] at hs'
  have hu := order_unique hs' hm' hs hm (fun u v _ _ => Iff.rfl)
  have hL := lef_bd (abs := sgn total total) (ws := ws) (by unfold sgn; split <;> omega) hW.w hW.hs hW.h1
  unfold splitL
  rw [e, List.map_map]
  apply List.map_congr_left
  intro v _
  have hp : part (sgn total total) (lsum ws) ws d' (lef (sgn total total) (lsum ws) ws ws.length).toNat v = part (sgn total total) (lsum ws) ws d (lef (sgn total total) (lsum ws) ws ws.length).toNat v := by
    unfold part
    rw [inFirst_congr hu (by omega)]
  rw [hp]
  show sgn (-total) _ = -(sgn total _)
  rcases Int.lt_trichotomy total 0 with h | h | h
  · unfold sgn; rw [if_neg (by omega), if_pos h]; omega
  · subst h
    have hz : part (sgn 0 0) (lsum ws) ws d (lef (sgn 0 0) (lsum ws) ws ws.length).toNat v = 0 := by
      have hb : ∀ v, bas 0 (lsum ws) ws v = 0 := fun v => by unfold bas; simp
      have hsu : sumTo (bas 0 (lsum ws) ws) ws.length = 0 := by
        generalize ws.length = m
        induction m with
        | zero => rfl
        | succ m ih => rw [sumTo, ih, hb]; rfl
      have h0 : lef (sgn 0 0) (lsum ws) ws ws.length = 0 := by
        show 0 - sumTo (bas 0 (lsum ws) ws) ws.length = 0
        rw [hsu]; rfl
      rw [h0]
      show part 0 (lsum ws) ws d 0 v = 0
      rw [part_zero, hb]
    rw [hz]; rfl
  · unfold sgn
    rw [if_pos (show -total < 0 by omega)]
    simp only [if_neg (show ¬ total < 0 by omega)]
end Go.Proofs.Ytppjjmjdiccloaa
